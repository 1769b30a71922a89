/-
  waypointref27: Path, Reaches, Safe (printed by gen_vr4.py).
  waypointref29: without, Component (printed by gen_vr5.py).
-/
import Derived.Test.YtdnjflpmbnjgeaaGreatPkVr2
import Derived.Test.YtdnjflpmbnjgeaaGreatPkPcv
import Derived.Test.YtdnjflpmbnjgeaaGreatRc
import Derived.Test.YtdnjflpmbnjgeaaGreatPkAsm
set_option linter.unusedSimpArgs false
set_option linter.unusedVariables false
namespace Go.Proofs.YtdnjflpmbnjgeaaGreat
section
open Go.RowKit Go.Sort
section
variable {w : World} {A1 A2 D : Option Addr} {t : Topo} {dn : List Bool}
set_option maxRecDepth 100000 in
theorem ref27_Path (c1 c2 dc : Nat) (s d : Int) (hv : valid t = true) (hs : isN t.n s = true) (hd : isN t.n d = true) (hT : TAt w A1 A2 t) (hD : Rd w D (dn.map Value.bool)) (hdl : dn.length = 0 ∨ dn.length = 2 * t.ls.length) :
    Calls Tryz.prog 83 #[.agg #[.int .i64 t.n, .slice A1 t.ov.length c1, .slice A2 t.ls.length c2], .slice D dn.length dc, .int .i64 s, .int .i64 d] w fun e w' => ∃ (A : Option Addr) (n c : Nat) (x : Int), e = .returned (.tuple #[.slice A n c, .int .i64 x]) ∧ (x = 0 ↔ reach t dn s d) ∧ Below w.heap.size w w' := by
 have HX := hU (Bl.new w #[.int .i64 t.n, .slice A1 t.ov.length c1, .slice A2 t.ls.length c2] 25)
 have HB := hU (cQ w (.cells #[.int .i64 t.n, .slice A1 t.ov.length c1, .slice A2 t.ls.length c2] 25))
 obtain ⟨b0, b1, b2, _⟩ := HX.out.c3
 have HP := hU (ref11_Path (w := w.alloc (.cells #[.int .i64 t.n, .slice A1 t.ov.length c1, .slice A2 t.ls.length c2] 25)) (D := D) (dn := dn) c1 c2 dc s d hv hs hd (hT.below HB.out) (hD.below HB.out) hdl)
 clear hv hs hd hT hD hdl
 go_enter Tryz.func83, Tryz.ntmps83
 go_wp2_with (go_at_call 110; (with_reducible refine HP.out.mono ?_); rintro e w2 ⟨A, n, c, x, rfl, hx, hb⟩; have HRE := hU hx; replace HB := hU (bQ HB.out hb); clear hx hb b0 b1 b2 HP)
 go_ret2
 exact ⟨A, n, c, x, rfl, HRE.out, HB.out⟩
set_option maxRecDepth 100000 in
theorem ref27_Reaches (c1 c2 dc : Nat) (s d : Int) (hv : valid t = true) (hs : isN t.n s = true) (hd : isN t.n d = true) (hT : TAt w A1 A2 t) (hD : Rd w D (dn.map Value.bool)) (hdl : dn.length = 0 ∨ dn.length = 2 * t.ls.length) :
    Calls Tryz.prog 51 #[.agg #[.int .i64 t.n, .slice A1 t.ov.length c1, .slice A2 t.ls.length c2], .slice D dn.length dc, .int .i64 s, .int .i64 d] w (RetBP w (reach t dn s d)) := by
 have HX := hU (Bl.new w #[.int .i64 t.n, .slice A1 t.ov.length c1, .slice A2 t.ls.length c2] 25)
 have HB := hU (cQ w (.cells #[.int .i64 t.n, .slice A1 t.ov.length c1, .slice A2 t.ls.length c2] 25))
 obtain ⟨b0, b1, b2, _⟩ := HX.out.c3
 have HP := hU (ref27_Path (w := w.alloc (.cells #[.int .i64 t.n, .slice A1 t.ov.length c1, .slice A2 t.ls.length c2] 25)) (D := D) (dn := dn) c1 c2 dc s d hv hs hd (hT.below HB.out) (hD.below HB.out) hdl)
 clear hv hs hd hT hD hdl
 go_enter Tryz.func51, Tryz.ntmps51
 go_wp2_with (go_at_call 83; (with_reducible refine HP.out.mono ?_); rintro e w2 ⟨A, n, c, x, rfl, hx, hb⟩; have HRE := hU hx; replace HB := hU (bQ HB.out hb); clear hx hb b0 b1 b2 HP)
 go_ret
 exact .mk (x == 0) rfl (by rw [beq_iff_eq]; exact HRE.out) HB.out
theorem ref11_Dist0 (c1 c2 : Nat) (d : Int) (hv : valid t = true) (hd : isN t.n d = true) (hT : TAt w A1 A2 t) :
    Calls Tryz.prog 82 #[.agg #[.int .i64 t.n, .slice A1 t.ov.length c1, .slice A2 t.ls.length c2], .slice none 0 0, .int .i64 d] w (RetDs t [] d w) := ref11_Dist (dn := []) (D := none) c1 c2 0 d hv hd hT (.inl rfl) (.inl rfl)
set_option maxRecDepth 100000 in
set_option maxHeartbeats 4000000 in
theorem ref27_Safe (c1 c2 dc : Nat) (gone d : Int) (hv : valid t = true) (hd : isN t.n d = true) (hT : TAt w A1 A2 t) (hD : Rd w D (dn.map Value.bool)) (hdl : dn.length = 0 ∨ dn.length = 2 * t.ls.length) :
    Calls Tryz.prog 50 #[.agg #[.int .i64 t.n, .slice A1 t.ov.length c1, .slice A2 t.ls.length c2], .slice D dn.length dc, .int .i64 gone, .int .i64 d] w (RetBP w (safeP t dn gone d)) := by
 have HN := hU (iZ hv)
 have HV := hU hv
 have HDD := hU hd
 have HX := hU (Bl.new w #[.int .i64 t.n, .slice A1 t.ov.length c1, .slice A2 t.ls.length c2] 25)
 have HB := hU (cQ w (.cells #[.int .i64 t.n, .slice A1 t.ov.length c1, .slice A2 t.ls.length c2] 25))
 obtain ⟨b0, b1, b2, _⟩ := HX.out.c3
 have HP0 := hU (ref11_Dist0 (w := w.alloc (.cells #[.int .i64 t.n, .slice A1 t.ov.length c1, .slice A2 t.ls.length c2] 25)) c1 c2 d hv hd (hT.below HB.out))
 have HP1 := hU (fun (W : World) (hW : Below w.heap.size w W) => ref11_Dist (w := W) (D := D) (dn := dn) c1 c2 dc d hv hd (hT.below hW) (hD.below hW) hdl)
 clear hv hd hT hD hdl
 go_enter Tryz.func50, Tryz.ntmps50
 go_upto_region 2 with (go_at_call 82; (with_reducible refine HP0.out.mono ?_); rintro e w5 ⟨A0, c0, dist0, rfl, hr, hsr, hsh, hb⟩; replace HX := hU (HX.out.up hb); replace HB := hU (bQ HB.out hb); have HR0 := hU hr; have HSR0 := hU (hsr.done (sgDist_ok HV.out HDD.out) hsh); clear hb hr hsr hsh b0 b1 b2 HP0; obtain ⟨b0, b1, b2, _⟩ := HX.out.c3)
 go_upto_region 5 with (go_at_call 82; (with_reducible refine (HP1.out _ HB.out).mono ?_); rintro e w6 ⟨A9, c9, dist9, rfl, hr, hsr, hsh, hb⟩; replace HX := hU (HX.out.up hb); replace HB := hU (bQ HB.out hb); replace HR0 := hU (HR0.out.below hb); have HR9 := hU hr; have HSR9 := hU (hsr.done (sgDist_ok HV.out HDD.out) hsh); clear hb hr hsr hsh b0 b1 b2 HP1; obtain ⟨b0, b1, b2, _⟩ := HX.out.c3)
 obtain ⟨N, hNe⟩ : ∃ N : Nat, t.n = (N : Int) := ⟨t.n.toNat, by have := HN.out; omega⟩
 have HNE := hU hNe
 have HL0 := hU (show dist0.length = N by rw [HSR0.out.len]; show t.n.toNat = N; omega)
 have HL9 := hU (show dist9.length = N by rw [HSR9.out.len]; show t.n.toNat = N; omega)
 have HI0 := hU (fun (n : Int) (h0 : 0 ≤ n) (h1 : n < (N : Int)) => (HSR0.out.iff (sgDist_ok HV.out HDD.out) h0 (by show n < ((t.n.toNat : Nat) : Int); omega)).trans rchDist)
 have HI9 := hU (fun (n : Int) (h0 : 0 ≤ n) (h1 : n < (N : Int)) => (HSR9.out.iff (sgDist_ok HV.out HDD.out) h0 (by show n < ((t.n.toNat : Nat) : Int); omega)).trans rchDist)
 have hN64 : N ≤ 64 := by have := HN.out; omega
 have e0 := HL0.out
 have e9 := HL9.out
 rw [e0, e9]
 clear e0 e9
 rw [hNe] at b0
 clear hNe
 go_wp2_with fail
 go_loop [13] (fun i => ∃ k : Nat, k ≤ N ∧ i = .int .i64 k ∧ Hid (∀ n, 0 ≤ n → n < (k : Int) → n ≠ gone → reach t [] n d → reach t dn n d)) (fun i => N - (intOf i).toNat)
 case atStart => exact ⟨0, Nat.zero_le _, rfl, hU (fun n h0 h1 => by omega)⟩
 case round =>
  obtain ⟨k, hk, rfl, HK⟩ := hrel
  by_cases hlt : k < N
  ·have hlt' : (k : Int) < (N : Int) := by omega
   obtain ⟨p0, o0, hA0, d0⟩ := dist_at HR0.out HL0.out (i := (k : Int)) (by omega) hlt'
   obtain ⟨p9, o9, hA9, d9⟩ := dist_at HR9.out HL9.out (i := (k : Int)) (by omega) hlt'
   rw [show ((k : Int)).toNat = k by omega] at d0 d9
   have i0 := HI0.out k (by omega) hlt'
   have i9 := HI9.out k (by omega) hlt'
   have HI0k := hU i0
   have HI9k := hU i9
   clear i0 i9
   subst hA0 hA9
   have good : ((k : Int) ≠ gone → reach t [] k d → reach t dn k d) → Hid (∀ n, 0 ≤ n → n < ((k + 1 : Nat) : Int) → n ≠ gone → reach t [] n d → reach t dn n d) := fun h => hU (fun n h0 h1 h2 => by
    by_cases e : n = (k : Int)
    ·subst e; exact h h2
    ·exact HK.out n h0 (by omega) h2)
   have HGO := hU good
   clear good
   by_cases hg : (k : Int) = gone
   ·have HG := hU hg
    have hgb : ((k : Int) != gone) = false := by simp [hg]
    clear hg
    go_wp2_with fail
    go_round
    case rel => exact ⟨k + 1, by omega, by go_num, HGO.out (fun h => absurd HG.out h)⟩
    case measure => simp [intOf]; omega
   ·have hgb : ((k : Int) != gone) = true := bne_iff_ne.2 hg
    have HG := hU hg
    clear hg
    by_cases h0 : 0 ≤ dD dist0 k
    ·by_cases h9 : dD dist9 k < 0
     ·have HNO : Hid (¬ safeP t dn gone d) := hU (fun h => by
       have h1 := h k (by omega) (by have := HNE.out; omega) HG.out (HI0k.out.1 h0)
       have := HI9k.out.2 h1
       omega)
      go_wp2_with fail
      go_ret
      exact .mk false rfl ⟨fun h => (by cases h), fun h => absurd h HNO.out⟩ HB.out
     ·have HYES := hU (HI9k.out.1 (by omega))
      go_wp2_with fail
      go_round
      case rel => exact ⟨k + 1, by omega, by go_num, HGO.out (fun _ _ => HYES.out)⟩
      case measure => simp [intOf]; omega
    ·have HNR : Hid (¬ reach t [] k d) := hU (fun h => h0 (HI0k.out.2 h))
     go_wp2_with fail
     go_round
     case rel => exact ⟨k + 1, by omega, by go_num, HGO.out (fun _ h => absurd h HNR.out)⟩
     case measure => simp [intOf]; omega
  ·obtain rfl : k = N := by omega
   have HYES : Hid (safeP t dn gone d) := hU (fun n h0 h1 => HK.out n h0 (by have := HNE.out; omega))
   go_wp2_with fail
   go_ret
   exact .mk true rfl ⟨fun _ => HYES.out, fun _ => rfl⟩ HB.out
end
theorem RetBP.yes {w w' : World} {p : Prop} {e : Ending} (h : RetBP w p e w') (hp : p) : e = .returned (.bool true) ∧ Below w.heap.size w w' := by
 obtain ⟨b, rfl, hb, hw⟩ := h
 rw [hb.2 hp]; exact ⟨rfl, hw⟩
theorem RetBP.no {w w' : World} {p : Prop} {e : Ending} (h : RetBP w p e w') (hp : ¬ p) : e = .returned (.bool false) ∧ Below w.heap.size w w' := by
 obtain ⟨b, rfl, hb, hw⟩ := h
 cases b with
 | true => exact absurd (hb.1 rfl) hp
 | false => exact ⟨rfl, hw⟩
theorem union_mask {t : Topo} {k m : Int} (hv : valid t = true) (h : compOk t k m = true) : unionV t [(k, m)] = (mask t [(k, m)], 0) := by simp [unionV, hv, h]
section
variable {w : World} {A1 A2 : Option Addr} {t : Topo}
set_option maxRecDepth 100000 in
set_option maxHeartbeats 2000000 in
theorem ref29_without (c1 c2 : Nat) (k m s d : Int) (hv : valid t = true) (hc : compOk t k m = true) (hs : isN t.n s = true) (hd : isN t.n d = true) (hT : TAt w A1 A2 t) :
    Calls Tryz.prog 106 #[.agg #[.int .i64 t.n, .slice A1 t.ov.length c1, .slice A2 t.ls.length c2], .agg #[.int .i64 k, .int .i64 m], .int .i64 s, .int .i64 d] w (RetBP w (reach t (mask t [(k, m)]) s d)) := by
 have hL := zQ hv
 have hb1 := cQ w (.cells #[.int .i64 t.n, .slice A1 t.ov.length c1, .slice A2 t.ls.length c2] 25)
 have hb2 := cQ (w.alloc (.cells #[.int .i64 t.n, .slice A1 t.ov.length c1, .slice A2 t.ls.length c2] 25)) (.cells #[.int .i64 k, .int .i64 m] 79)
 have n1 := (Bl.new w #[.int .i64 t.n, .slice A1 t.ov.length c1, .slice A2 t.ls.length c2] 25).up hb2
 have n2 := Bl.new (w.alloc (.cells #[.int .i64 t.n, .slice A1 t.ov.length c1, .slice A2 t.ls.length c2] 25)) #[.int .i64 k, .int .i64 m] 79
 simp only [World.size_alloc] at n2
 have HB := hU (bQ hb1 hb2)
 have HX := hU n1
 have HC := hU n2
 obtain ⟨b0, b1, b2, _⟩ := n1.c3
 obtain ⟨p0, p1, _⟩ := n2.c2
 have HM := hU (ref10_Mask t A1 A2 c1 c2 k m _ (hT.below HB.out) (by omega))
 have HU := hU (union_mask hv hc)
 have HRC := hU (fun (W : World) (hW : Below w.heap.size w W) (D : Option Addr) (dc : Nat) (hD : Rd W D ((mask t [(k, m)]).map Value.bool)) => ref27_Reaches (w := W) c1 c2 dc s d hv hs hd (hT.below hW) hD (.inr (mask_length t [(k, m)])))
 clear hb1 hb2 n1 n2 hv hc hs hd hT hL
 go_enter Tryz.func106, Tryz.ntmps106
 go_upto_region 2 with (go_at_call 48; (with_reducible refine HM.out.mono ?_); rintro e w2 ⟨A, c, rfl, hr, hb, hfr⟩; clear hfr; rw [HU.out] at hr ⊢; have HR := hU hr; replace HX := hU (HX.out.up hb); replace HB := hU (bQ HB.out hb); clear hr hb b0 b1 b2 p0 p1 HM; obtain ⟨b0, b1, b2, _⟩ := HX.out.c3)
 go_wp2_with (go_at_call 51; (with_reducible refine (HRC.out _ HB.out _ _ HR.out).mono ?_); rintro e w3 ⟨v, rfl, hv, hb⟩; have HV := hU hv; replace HB := hU (bQ HB.out hb); clear hv hb b0 b1 b2 HR HRC)
 go_ret
 exact .mk v rfl HV.out HB.out
set_option maxRecDepth 100000 in
set_option maxHeartbeats 8000000 in
theorem ref29_Component (c1 c2 : Nat) (arc d : Int) (hv : valid t = true) (h0 : 0 ≤ arc) (h1 : arc < 2 * (t.ls.length : Int)) (hd : isN t.n d = true) (hT : TAt w A1 A2 t) :
    Calls Tryz.prog 77 #[.agg #[.int .i64 t.n, .slice A1 t.ov.length c1, .slice A2 t.ls.length c2], .int .i64 arc, .int .i64 d] w fun e w' => e = .returned (.tuple #[.agg #[.int .i64 (asmV t arc d).1, .int .i64 (asmV t arc d).2], .int .i64 0]) ∧ Below w.heap.size w w' := by
 have hL := zQ hv
 have hN := iZ hv
 have hb1 := cQ w (.cells #[.int .i64 t.n, .slice A1 t.ov.length c1, .slice A2 t.ls.length c2] 25)
 have hb2 := cQ (w.alloc (.cells #[.int .i64 t.n, .slice A1 t.ov.length c1, .slice A2 t.ls.length c2] 25)) (.cells #[.int .i64 0, .int .i64 0] 79)
 have n1 := (Bl.new w #[.int .i64 t.n, .slice A1 t.ov.length c1, .slice A2 t.ls.length c2] 25).up hb2
 have n2 := Bl.new (w.alloc (.cells #[.int .i64 t.n, .slice A1 t.ov.length c1, .slice A2 t.ls.length c2] 25)) #[.int .i64 0, .int .i64 0] 79
 simp only [World.size_alloc] at n2
 have HB := hU (bQ hb1 hb2)
 have HX := hU n1
 have HC := hU n2
 obtain ⟨b0, b1, b2, _⟩ := n1.c3
 obtain ⟨p0, p1, _⟩ := n2.c2
 have HA1 := hU (isN_true.2 ⟨h0, h1⟩ : isN (2 * (t.ls.length : Int)) arc = true)
 have hends := arc_ends2 hv h0 h1
 obtain ⟨s, hse⟩ : ∃ s, s = tail t arc := ⟨_, rfl⟩
 obtain ⟨h, hhe⟩ : ∃ h, h = fZ t arc := ⟨_, rfl⟩
 obtain ⟨g, hge⟩ : ∃ g, g = (lnk t arc).g := ⟨_, rfl⟩
 have hsn : isN t.n s = true := by rw [hse]; exact isN_true.2 ⟨hends.2.2.1, hends.2.2.2⟩
 have hhn : isN t.n h = true := by rw [hhe]; exact isN_true.2 ⟨hends.1, hends.2.1⟩
 have hgb : 0 ≤ g ∧ g ≤ 64 := by rw [hge]; exact lnk_gbd (valid_lnk hv (lnk_at h0 h1).2)
 have HRV := hU (hv)
 have HTL := hU (fun (W : World) (hW : Below w.heap.size w W) => ref09_TailT t A1 A2 c1 c2 arc W (hT.below hW) (by omega) hv HA1.out)
 have HHL := hU (fun (W : World) (hW : Below w.heap.size w W) => ref09_HeadT t A1 A2 c1 c2 arc W (hT.below hW) (by omega) hv HA1.out)
 have HVL := hU (fun (W : World) (hW : Below w.heap.size w W) => dZ t A1 A2 c1 c2 W (hT.below hW).ls)
 rw [hv] at HVL
 have HWG := hU (fun (hg : 0 < g) (W : World) (hW : Below w.heap.size w W) => ref29_without (w := W) c1 c2 3 g s d hv (by rw [compOk3]; simp; omega) hsn hd (hT.below hW))
 have HWN := hU (fun (W : World) (hW : Below w.heap.size w W) => ref29_without (w := W) c1 c2 2 h s d hv (by rw [compOk2]; exact hhn) hsn hd (hT.below hW))
 rw [← hse] at HTL
 rw [← hhe] at HHL
 obtain ⟨R, hR⟩ : ∃ R, R = asmV t arc d := ⟨_, rfl⟩
 rw [← hR]
 have HR : Hid (R = asmV t arc d) := hU hR
 have HAV : Hid ((0 < g ∧ reach t (mask t [(3, g)]) s d → R = (3, g)) ∧ (¬ (0 < g ∧ reach t (mask t [(3, g)]) s d) → d ≠ h ∧ reach t (mask t [(2, h)]) s d → R = (2, h)) ∧ (¬ (0 < g ∧ reach t (mask t [(3, g)]) s d) → ¬ (d ≠ h ∧ reach t (mask t [(2, h)]) s d) → R = (1, arc / 2))) := hU (by
  rw [hR, hge, hse, hhe]
  unfold asmV
  refine ⟨fun x => if_pos x, fun x y => ?_, fun x y => ?_⟩
  ·rw [if_neg x, if_pos y]
  ·rw [if_neg x, if_neg y])
 obtain ⟨lb, lo, hA2, hc⟩ := hT.ls.arc h0 h1
 obtain ⟨q0, q1, q2, q3, q4, q5, q6⟩ := hc
 rw [← hge] at q6
 obtain ⟨d0, d1⟩ := isN_true.1 hd
 have e1 : decide (arc < 0) = false := by simp; omega
 have hw2 := IntWalk.wrap64_in (2 * (t.ls.length : Int)) (by omega)
 have e2 : decide (arc ≥ 2 * (t.ls.length : Int)) = false := by simp; omega
 have e3 : decide (d < 0) = false := by simp; omega
 have e4 : decide (d ≥ t.n) = false := by simp; omega
 have h2 : arc / 2 < (t.ls.length : Int) := by omega
 have h3 : (0 : Int) ≤ arc / 2 := by omega
 subst hA2
 have HLC := hU q6
 have HHB := hU (show 0 ≤ h ∧ h < 100 from by have := isN_true.1 hhn; omega)
 have HGB := hU hgb
 have hls : t.ls.length ≤ 256 := hL
 clear hb1 hb2 n1 n2 hv hd hT hL hN hends hse hhe hge hsn hhn hgb hR d0 d1 q0 q1 q2 q3 q4 q5 q6 p0 p1
 go_enter Tryz.func77, Tryz.ntmps77
 go_upto_region 5 with (go_at_call 73; (with_reducible refine (HVL.out _ HB.out).mono ?_); rintro e w2 ⟨rfl, hb⟩; replace HX := hU (HX.out.up hb); replace HC := hU (HC.out.up hb); replace HB := hU (bQ HB.out hb); clear hb b0 b1 b2; obtain ⟨b0, b1, b2, _⟩ := HX.out.c3)
 obtain ⟨P1, P2, P3, -⟩ := kU b0 (kU b1 (kU b2 trivial))
 refine wp_region_quiet_below (by kernel_rfl) (by kernel_rfl) ?_
 repeat (go_big_quiet_step ((first | (with_reducible exact Calls.regrown_of (HTL.out _ (HB.out.trans ((below_regrown _ _ _).mono HB.out.size)))) | (with_reducible exact Calls.regrown_of (HHL.out _ (HB.out.trans ((below_regrown _ _ _).mono HB.out.size)))))))
 refine wpQuiet_nil ?_
 intro W3 hb
 replace hb := eQ hb
 clear P1 P2 P3
 have zU := uU hb b0 (uU hb b1 (uU hb b2 trivial)); clear b0 b1 b2; obtain ⟨b0, b1, b2, -⟩ := zU
 replace HX := hU (HX.out.up hb)
 replace HC := hU (HC.out.up hb)
 have q6 := aQ hb (aQ HB.out HLC.out)
 replace HB := hU (bQ HB.out hb)
 clear hb b0 b1 b2 HTL HHL HVL
 obtain ⟨b0, b1, b2, _⟩ := HX.out.c3
 go_upto_region 8 with fail
 refine kQ (fun Y => Bl 25 w.heap.size #[.int .i64 t.n, .slice A1 t.ov.length c1, .slice (some ⟨lb, lo, none⟩) t.ls.length c2] Y ∧ Bl 79 (w.heap.size + 1) #[.int .i64 0, .int .i64 0] Y ∧ Bl 79 W3.heap.size #[.int .i64 3, .int .i64 g] Y ∧ Bl 79 (W3.heap.size + 1) #[.int .i64 2, .int .i64 h] Y ∧ Below w.heap.size w Y) ⟨(HX.out.up (cQ _ _)).up (cQ _ _), (HC.out.up (cQ _ _)).up (cQ _ _), (Bl.new _ _ _).up (cQ _ _), by have := Bl.new (W3.alloc (.cells #[.int .i64 3, .int .i64 g] 79)) #[.int .i64 2, .int .i64 h] 79; rwa [World.size_alloc] at this, bQ (bQ HB.out (cQ _ _)) (cQ _ _)⟩ ?_
 generalize W3.heap.size = gb
 clear HX HC HB b0 b1 b2 q6
 rintro Y ⟨h1, h2, h3, h4, h5⟩
 have HX := hU h1
 have HC := hU h2
 have HG := hU h3
 have HH := hU h4
 have HB := hU h5
 clear h1 h2 h3 h4 h5
 obtain ⟨b0, b1, b2, _⟩ := HX.out.c3
 obtain ⟨z0, z1, z2⟩ := HC.out.c2
 obtain ⟨g0, g1, _⟩ := HG.out.c2
 obtain ⟨y0, y1, _⟩ := HH.out.c2
 have hlt := HC.out.lt
 by_cases hg : 0 < g
 ·have hgb : decide (g > 0) = true := by simp; exact hg
  have HG0 := hU hg
  clear hg
  by_cases hrg : reach t (mask t [(3, g)]) s d
  ·have HRG := hU hrg
   clear hrg
   have HRW : Hid (R = (3, g)) := hU (HAV.out.1 ⟨HG0.out, HRG.out⟩)
   go_wp2_with (first | (go_at_call 106; (with_reducible refine (((HWG.out HG0.out _ HB.out).mono fun e w9 H => RetBP.yes H HRG.out)).mono ?_); rintro e w4 ⟨rfl, hb⟩; replace HX := hU (HX.out.up hb); replace HC := hU (HC.out.up hb); replace HG := hU (HG.out.up hb); replace HH := hU (HH.out.up hb); replace HB := hU (bQ HB.out hb); clear hb b0 b1 b2 z0 z1 z2 g0 g1 y0 y1; obtain ⟨b0, b1, b2, _⟩ := HX.out.c3; obtain ⟨z0, z1, z2⟩ := HC.out.c2; obtain ⟨g0, g1, _⟩ := HG.out.c2; obtain ⟨y0, y1, _⟩ := HH.out.c2))
   obtain ⟨n0, n1, _⟩ := (cp_set HC.out (.int .i64 3) (.int .i64 (g))).c2
   refine bodyPost_ret (v := .tuple #[.agg #[.int .i64 3, .int .i64 (g)], .int .i64 0]) (by simp [results, Tryz.results77, go_sem, n0, n1]) rfl ?_
   exact ⟨by rw [HRW.out], (HB.out.setCell (p := ⟨w.heap.size + 1, 0, none⟩) (Nat.le_succ _) _).setCell (p := ⟨w.heap.size + 1, 1, none⟩) (Nat.le_succ _) _⟩
  ·have HRG := hU hrg
   clear hrg
   by_cases hdh : d = h
   ·have hdb : (h != d) = false := by simp [hdh]
    have HDH := hU hdh
    clear hdh
    have HRW : Hid (R = (1, arc / 2)) := hU (HAV.out.2.2 (fun h => HRG.out h.2) (fun h => h.1 HDH.out))
    go_wp2_with (first | (go_at_call 106; (with_reducible refine (((HWG.out HG0.out _ HB.out).mono fun e w9 H => RetBP.no H HRG.out)).mono ?_); rintro e w4 ⟨rfl, hb⟩; replace HX := hU (HX.out.up hb); replace HC := hU (HC.out.up hb); replace HG := hU (HG.out.up hb); replace HH := hU (HH.out.up hb); replace HB := hU (bQ HB.out hb); clear hb b0 b1 b2 z0 z1 z2 g0 g1 y0 y1; obtain ⟨b0, b1, b2, _⟩ := HX.out.c3; obtain ⟨z0, z1, z2⟩ := HC.out.c2; obtain ⟨g0, g1, _⟩ := HG.out.c2; obtain ⟨y0, y1, _⟩ := HH.out.c2))
    obtain ⟨n0, n1, _⟩ := (cp_set HC.out (.int .i64 1) (.int .i64 (arc / 2))).c2
    refine bodyPost_ret (v := .tuple #[.agg #[.int .i64 1, .int .i64 (arc / 2)], .int .i64 0]) (by simp [results, Tryz.results77, go_sem, n0, n1]) rfl ?_
    exact ⟨by rw [HRW.out], (HB.out.setCell (p := ⟨w.heap.size + 1, 0, none⟩) (Nat.le_succ _) _).setCell (p := ⟨w.heap.size + 1, 1, none⟩) (Nat.le_succ _) _⟩
   ·have hdb : (h != d) = true := bne_iff_ne.2 (fun e => hdh e.symm)
    have HDH := hU hdh
    clear hdh
    by_cases hrh : reach t (mask t [(2, h)]) s d
    ·have HRH := hU hrh
     clear hrh
     have HRW : Hid (R = (2, h)) := hU (HAV.out.2.1 (fun h => HRG.out h.2) ⟨HDH.out, HRH.out⟩)
     go_wp2_with (first | (go_at_call 106; (with_reducible refine (((HWG.out HG0.out _ HB.out).mono fun e w9 H => RetBP.no H HRG.out)).mono ?_); rintro e w4 ⟨rfl, hb⟩; replace HX := hU (HX.out.up hb); replace HC := hU (HC.out.up hb); replace HG := hU (HG.out.up hb); replace HH := hU (HH.out.up hb); replace HB := hU (bQ HB.out hb); clear hb b0 b1 b2 z0 z1 z2 g0 g1 y0 y1; obtain ⟨b0, b1, b2, _⟩ := HX.out.c3; obtain ⟨z0, z1, z2⟩ := HC.out.c2; obtain ⟨g0, g1, _⟩ := HG.out.c2; obtain ⟨y0, y1, _⟩ := HH.out.c2) | (go_at_call 106; (with_reducible refine (((HWN.out _ HB.out).mono fun e w9 H => RetBP.yes H HRH.out)).mono ?_); rintro e w4 ⟨rfl, hb⟩; replace HX := hU (HX.out.up hb); replace HC := hU (HC.out.up hb); replace HG := hU (HG.out.up hb); replace HH := hU (HH.out.up hb); replace HB := hU (bQ HB.out hb); clear hb b0 b1 b2 z0 z1 z2 g0 g1 y0 y1; obtain ⟨b0, b1, b2, _⟩ := HX.out.c3; obtain ⟨z0, z1, z2⟩ := HC.out.c2; obtain ⟨g0, g1, _⟩ := HG.out.c2; obtain ⟨y0, y1, _⟩ := HH.out.c2))
     obtain ⟨n0, n1, _⟩ := (cp_set HC.out (.int .i64 2) (.int .i64 (h))).c2
     refine bodyPost_ret (v := .tuple #[.agg #[.int .i64 2, .int .i64 (h)], .int .i64 0]) (by simp [results, Tryz.results77, go_sem, n0, n1]) rfl ?_
     exact ⟨by rw [HRW.out], (HB.out.setCell (p := ⟨w.heap.size + 1, 0, none⟩) (Nat.le_succ _) _).setCell (p := ⟨w.heap.size + 1, 1, none⟩) (Nat.le_succ _) _⟩
    ·have HRH := hU hrh
     clear hrh
     have HRW : Hid (R = (1, arc / 2)) := hU (HAV.out.2.2 (fun h => HRG.out h.2) (fun h => HRH.out h.2))
     go_wp2_with (first | (go_at_call 106; (with_reducible refine (((HWG.out HG0.out _ HB.out).mono fun e w9 H => RetBP.no H HRG.out)).mono ?_); rintro e w4 ⟨rfl, hb⟩; replace HX := hU (HX.out.up hb); replace HC := hU (HC.out.up hb); replace HG := hU (HG.out.up hb); replace HH := hU (HH.out.up hb); replace HB := hU (bQ HB.out hb); clear hb b0 b1 b2 z0 z1 z2 g0 g1 y0 y1; obtain ⟨b0, b1, b2, _⟩ := HX.out.c3; obtain ⟨z0, z1, z2⟩ := HC.out.c2; obtain ⟨g0, g1, _⟩ := HG.out.c2; obtain ⟨y0, y1, _⟩ := HH.out.c2) | (go_at_call 106; (with_reducible refine (((HWN.out _ HB.out).mono fun e w9 H => RetBP.no H HRH.out)).mono ?_); rintro e w4 ⟨rfl, hb⟩; replace HX := hU (HX.out.up hb); replace HC := hU (HC.out.up hb); replace HG := hU (HG.out.up hb); replace HH := hU (HH.out.up hb); replace HB := hU (bQ HB.out hb); clear hb b0 b1 b2 z0 z1 z2 g0 g1 y0 y1; obtain ⟨b0, b1, b2, _⟩ := HX.out.c3; obtain ⟨z0, z1, z2⟩ := HC.out.c2; obtain ⟨g0, g1, _⟩ := HG.out.c2; obtain ⟨y0, y1, _⟩ := HH.out.c2))
     obtain ⟨n0, n1, _⟩ := (cp_set HC.out (.int .i64 1) (.int .i64 (arc / 2))).c2
     refine bodyPost_ret (v := .tuple #[.agg #[.int .i64 1, .int .i64 (arc / 2)], .int .i64 0]) (by simp [results, Tryz.results77, go_sem, n0, n1]) rfl ?_
     exact ⟨by rw [HRW.out], (HB.out.setCell (p := ⟨w.heap.size + 1, 0, none⟩) (Nat.le_succ _) _).setCell (p := ⟨w.heap.size + 1, 1, none⟩) (Nat.le_succ _) _⟩
 ·have hgb : decide (g > 0) = false := by simp; omega
  have HG0 := hU hg
  clear hg
  by_cases hdh : d = h
  ·have hdb : (h != d) = false := by simp [hdh]
   have HDH := hU hdh
   clear hdh
   have HRW : Hid (R = (1, arc / 2)) := hU (HAV.out.2.2 (fun h => HG0.out h.1) (fun h => h.1 HDH.out))
   go_wp2_with fail
   obtain ⟨n0, n1, _⟩ := (cp_set HC.out (.int .i64 1) (.int .i64 (arc / 2))).c2
   refine bodyPost_ret (v := .tuple #[.agg #[.int .i64 1, .int .i64 (arc / 2)], .int .i64 0]) (by simp [results, Tryz.results77, go_sem, n0, n1]) rfl ?_
   exact ⟨by rw [HRW.out], (HB.out.setCell (p := ⟨w.heap.size + 1, 0, none⟩) (Nat.le_succ _) _).setCell (p := ⟨w.heap.size + 1, 1, none⟩) (Nat.le_succ _) _⟩
  ·have hdb : (h != d) = true := bne_iff_ne.2 (fun e => hdh e.symm)
   have HDH := hU hdh
   clear hdh
   by_cases hrh : reach t (mask t [(2, h)]) s d
   ·have HRH := hU hrh
    clear hrh
    have HRW : Hid (R = (2, h)) := hU (HAV.out.2.1 (fun h => HG0.out h.1) ⟨HDH.out, HRH.out⟩)
    go_wp2_with (first | (go_at_call 106; (with_reducible refine (((HWN.out _ HB.out).mono fun e w9 H => RetBP.yes H HRH.out)).mono ?_); rintro e w4 ⟨rfl, hb⟩; replace HX := hU (HX.out.up hb); replace HC := hU (HC.out.up hb); replace HG := hU (HG.out.up hb); replace HH := hU (HH.out.up hb); replace HB := hU (bQ HB.out hb); clear hb b0 b1 b2 z0 z1 z2 g0 g1 y0 y1; obtain ⟨b0, b1, b2, _⟩ := HX.out.c3; obtain ⟨z0, z1, z2⟩ := HC.out.c2; obtain ⟨g0, g1, _⟩ := HG.out.c2; obtain ⟨y0, y1, _⟩ := HH.out.c2))
    obtain ⟨n0, n1, _⟩ := (cp_set HC.out (.int .i64 2) (.int .i64 (h))).c2
    refine bodyPost_ret (v := .tuple #[.agg #[.int .i64 2, .int .i64 (h)], .int .i64 0]) (by simp [results, Tryz.results77, go_sem, n0, n1]) rfl ?_
    exact ⟨by rw [HRW.out], (HB.out.setCell (p := ⟨w.heap.size + 1, 0, none⟩) (Nat.le_succ _) _).setCell (p := ⟨w.heap.size + 1, 1, none⟩) (Nat.le_succ _) _⟩
   ·have HRH := hU hrh
    clear hrh
    have HRW : Hid (R = (1, arc / 2)) := hU (HAV.out.2.2 (fun h => HG0.out h.1) (fun h => HRH.out h.2))
    go_wp2_with (first | (go_at_call 106; (with_reducible refine (((HWN.out _ HB.out).mono fun e w9 H => RetBP.no H HRH.out)).mono ?_); rintro e w4 ⟨rfl, hb⟩; replace HX := hU (HX.out.up hb); replace HC := hU (HC.out.up hb); replace HG := hU (HG.out.up hb); replace HH := hU (HH.out.up hb); replace HB := hU (bQ HB.out hb); clear hb b0 b1 b2 z0 z1 z2 g0 g1 y0 y1; obtain ⟨b0, b1, b2, _⟩ := HX.out.c3; obtain ⟨z0, z1, z2⟩ := HC.out.c2; obtain ⟨g0, g1, _⟩ := HG.out.c2; obtain ⟨y0, y1, _⟩ := HH.out.c2))
    obtain ⟨n0, n1, _⟩ := (cp_set HC.out (.int .i64 1) (.int .i64 (arc / 2))).c2
    refine bodyPost_ret (v := .tuple #[.agg #[.int .i64 1, .int .i64 (arc / 2)], .int .i64 0]) (by simp [results, Tryz.results77, go_sem, n0, n1]) rfl ?_
    exact ⟨by rw [HRW.out], (HB.out.setCell (p := ⟨w.heap.size + 1, 0, none⟩) (Nat.le_succ _) _).setCell (p := ⟨w.heap.size + 1, 1, none⟩) (Nat.le_succ _) _⟩
end
end
end Go.Proofs.YtdnjflpmbnjgeaaGreat
