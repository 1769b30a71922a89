/-
  spf.Path ends; it gives no error exactly if there is a way (printed by gen_spfpa.py).
-/
import Derived.Test.YtdnjflpmbnjgeaaGreatSpfF
import Derived.Test.YtdnjflpmbnjgeaaGreatPkRtJ
import Derived.Test.YtdnjflpmbnjgeaaGreatPkFe
set_option linter.unusedSimpArgs false
set_option linter.unusedVariables false
namespace Go.Proofs.YtdnjflpmbnjgeaaGreat
section
open Go.RowKit Go.Sort
theorem rd_new2 (w : World) (x y : Value) (T : TypeId) : Rd (w.alloc (.cells #[x, y] T)) (some ⟨w.heap.size, 0, none⟩) [x, y] := by
 refine .inr ⟨w.heap.size, 0, rfl, fun j u hu => ?_⟩
 rw [Lib.cell_of_heap (heap_alloc_new w _)]
 simpa using hu
/-- A distance out of a row. -/
theorem dist_at {W : World} {A : Option Addr} {dist : List Int} {N : Nat} (h : Rd W A (dist.map (Value.int .i64))) (hl : dist.length = N) {i : Int} (h0 : 0 ≤ i) (h1 : i < (N : Int)) : ∃ b o, A = some ⟨b, o, none⟩ ∧ W.cell? ⟨b, o + i.toNat, none⟩ = some (.int .i64 (dD dist i)) := by
 have hlt : i.toNat < dist.length := by omega
 refine h.at_ (k := i.toNat) ?_
 rw [List.getElem?_map, List.getElem?_eq_getElem hlt]
 unfold dD
 rw [List.getD_eq_getElem?_getD, List.getElem?_eq_getElem hlt]
 rfl
/-- An arc by which a way goes on. -/
def goodA (t : Topo) (dn : List Bool) (dist : List Int) (n d a : Int) : Prop := upB dn a = true ∧ 0 ≤ dD dist (fZ t a) ∧ (fZ t a = d ∨ over t (fZ t a) = false) ∧ dD dist (fZ t a) + cost t a = dD dist n
theorem good_ex {t : Topo} {dn : List Bool} {dist : List Int} {n d : Int} (hv : valid t = true) (h : SR (sgDist t dn d) dist) (h0 : 0 ≤ n) (h1 : n < t.n) (hn : n ≠ d) (hd : 0 ≤ dD dist n) : ∃ a ∈ ups (outP t n) (2 * t.ls.length), goodA t dn dist n d a := by
 have hN := iZ hv
 rcases h.td n h0 (by show n < ((t.n.toNat : Nat) : Int); omega) hd with ⟨e, _⟩ | ⟨m, a, m0, m1, m2, m3, m4, m5, m6, m7⟩
 ·exact absurd e hn
 ·have h2 := mem_ups.1 m4
  have hm : fZ t a = m := by simpa using h2.2.2
  refine ⟨a, mem_ups.2 ⟨h2.1, h2.2.1, by unfold outP; rw [beq_iff_eq]; exact m6⟩, m5, by rw [hm]; exact m2, ?_, by rw [hm]; exact m7.symm⟩
  rw [hm]
  exact m3
theorem own_slice' {w : World} {B n k : Nat} {E : TypeId} {v : Value} {xs : List Value} (h : w.ownsRow B E k v n xs) : ∃ A c, v = .slice A n c := by
 rcases h with ⟨hl, ⟨rfl, h0⟩ | ⟨g, cap, cur, rfl, _⟩⟩
 ·exact ⟨none, 0, by rw [h0]⟩
 ·exact ⟨_, _, rfl⟩
section
variable {w : World} {A1 A2 D : Option Addr} {t : Topo} {dn : List Bool}
theorem spf_check2 (c1 c2 dl dc : Nat) (An : Option Addr) (cn : Nat) (s d : Int) (hv : valid t = true) (hT : TAt w A1 A2 t) (hdl : dl = 0 ∨ dl = 2 * t.ls.length) (hn : Rd w An [.int .i64 s, .int .i64 d]) (hs : isN t.n s = true) (hd : isN t.n d = true) :
    Calls Tryz.prog 90 #[.agg #[.int .i64 t.n, .slice A1 t.ov.length c1, .slice A2 t.ls.length c2], .slice D dl dc, .slice An 2 cn] w fun e w' => e = .returned (.int .i64 0) ∧ Below w.heap.size w w' := by
 have h := spf_check (D := D) c1 c2 dl dc An cn [s, d] hv hT hdl hn (by simp)
 simpa [hs, hd] using h
set_option maxRecDepth 100000 in
set_option maxHeartbeats 8000000 in
theorem spf_Path (c1 c2 dc : Nat) (s d : Int) (hv : valid t = true) (hs : isN t.n s = true) (hd : isN t.n d = true) (hT : TAt w A1 A2 t) (hD : Rd w D (dn.map Value.bool)) (hdl : dn.length = 0 ∨ dn.length = 2 * t.ls.length) :
    Calls Tryz.prog 102 #[.agg #[.int .i64 t.n, .slice A1 t.ov.length c1, .slice A2 t.ls.length c2], .slice D dn.length dc, .int .i64 s, .int .i64 d] w fun e w' => ∃ (A : Option Addr) (n c : Nat) (x : Int), e = .returned (.tuple #[.slice A n c, .int .i64 x]) ∧ (x = 0 ↔ reach t dn s d) ∧ Below w.heap.size w w' := by
 obtain ⟨i0, hi, hz0, hz1, hz2⟩ := info_parts intInfo
 have hL := zQ hv
 have hN := iZ hv
 have hX := TBox.start c1 c2 hT
 obtain ⟨b0, b1, b2⟩ := hX.cells
 have HX := hU hX
 have HV := hU hv
 have HD := hU hD
 have HDL := hU hdl
 have HS := hU hs
 have HDD := hU hd
 have HN := hU hN
 have HSB := hU (isN_true.1 hs)
 have HDB := hU (isN_true.1 hd)
 have HOV := hU (valid_ov hv)
 clear hX hT hv hd hs hD hdl hN
 go_enter Tryz.func102, Tryz.ntmps102
 have hsz : (w.alloc (.cells #[.int .i64 t.n, .slice A1 t.ov.length c1, .slice A2 t.ls.length c2] 25)).heap.size = w.heap.size + 1 := by simp
 have HR1 := hU (rd_new2 (w.alloc (.cells #[.int .i64 t.n, .slice A1 t.ov.length c1, .slice A2 t.ls.length c2] 25)) (.int .i64 s) (.int .i64 d) 3)
 rw [hsz] at HR1
 clear hsz
 go_upto_region 5 with (first | (go_at_call 90; (with_reducible refine (spf_check2 _ _ _ _ _ _ s d HV.out (HX.out.ta.below (cQ _ _)) HDL.out HR1.out HS.out HDD.out).mono ?_); rintro e w2 ⟨rfl, hb⟩; replace HX := hU ((HX.out.up (cQ _ _)).up hb); clear hb b0 b1 b2; obtain ⟨b0, b1, b2⟩ := HX.out.cells) | (go_at_call 70; (with_reducible refine (spf_Dist _ _ _ d HV.out HDD.out HX.out.ta (HD.out.below HX.out.hb) HDL.out).mono ?_); rintro e w3 ⟨A0, c0, dist, rfl, hr, hsr, hb⟩; replace HX := hU (HX.out.up hb); have HR := hU hr; have HSR := hU hsr; clear hb hr hsr b0 b1 b2; obtain ⟨b0, b1, b2⟩ := HX.out.cells))
 obtain ⟨N, hNe⟩ : ∃ N : Nat, t.n = (N : Int) := ⟨t.n.toNat, by have := HN.out; omega⟩
 have HNE := hU hNe
 have HLEN := hU (show dist.length = N by rw [HSR.out.len]; show t.n.toNat = N; omega)
 have hN64 : N ≤ 64 := by have := HN.out; omega
 have HIFF : Hid (0 ≤ dD dist s ↔ reach t dn s d) := hU ((HSR.out.iff (sgDist_ok HV.out HDD.out) HSB.out.1 (by show s < ((t.n.toNat : Nat) : Int); have := HSB.out; omega)).trans rchDist)
 obtain ⟨hs0, hs1⟩ := HSB.out
 rw [hNe] at hs1
 obtain ⟨db, dof, hA0, ds⟩ := dist_at HR.out HLEN.out hs0 hs1
 have HA0 := hU hA0
 subst hA0
 have hln := HLEN.out
 rw [hln]
 clear hNe
 by_cases hneg : dD dist s < 0
 ·go_wp2_with fail
  go_ret2
  exact ⟨none, 0, 0, 11, rfl, ⟨fun h => by omega, fun h => by have := HIFF.out.2 h; omega⟩, HX.out.hb⟩
 ·have HRE : Hid (reach t dn s d) := hU (HIFF.out.1 (by omega))
  have HDS := hU (show 0 ≤ dD dist s ∧ dD dist s ≤ 4194240 from ⟨by omega, by have := HSR.out.hi s hs0 (by show s < ((t.n.toNat : Nat) : Int); have := HNE.out; omega); omega⟩)
  go_upto_region 8 with (go_at_call 91; (with_reducible refine (graph_Leaving t _ _ _ _ _ HX.out.ta (by omega) HV.out).mono ?_); rintro e w4 ⟨g, n, cap, vl, hn, rfl, hF, hb⟩; replace HX := hU (HX.out.up hb); replace HR := hU (HR.out.below hb); have HF := hU hF; have HFN := hU hn; clear hF hb hn b0 b1 b2)
  obtain rfl : N = n := by have := HFN.out; have := HNE.out; omega
  have HOW := hU (World.ownsRow_nil w4 w4.heap.size 3 1)
  clear ds hneg
  go_wp2_with fail
  go_loopg [14, 15] (dD dist s).toNat (fun g v14 v15 wx => ∃ (n : Int) (path : List Int), v15 = .int .i64 n ∧ 0 ≤ n ∧ n < (N : Int) ∧ Hid (wx.ownsRow w4.heap.size 3 1 v14 path.length (path.map (Value.int .i64))) ∧ Hid (Below w4.heap.size w4 wx) ∧ Hid (0 ≤ dD dist n ∧ (path.length : Int) + dD dist n ≤ dD dist s ∧ (g : Int) = dD dist n))
  case atStart => exact ⟨s, [], rfl, hs0, hs1, HOW, hU (Below.refl _ _), hU (by have := HDS.out; simp; omega)⟩
  case round =>
   clear HOW
   obtain ⟨n, path, rfl, hn0, hn1, HOW, HBW, HMS⟩ := hrel
   have HXW := hU (HX.out.up HBW.out)
   by_cases hnd : n = d
   ·subst hnd
    obtain ⟨Ap, cp, rfl⟩ := own_slice' HOW.out
    go_wp2_with fail
    go_ret2
    exact ⟨_, _, _, 0, rfl, ⟨fun _ => HRE.out, fun _ => rfl⟩, HXW.out.hb⟩
   ·have hndb : (n != d) = true := bne_iff_ne.2 hnd
    obtain ⟨a0, hm0, hg0⟩ := good_ex (dist := dist) HV.out HSR.out hn0 (by have := HNE.out; omega) hnd HMS.out.1
    obtain ⟨l, hl⟩ : ∃ l, l = ups (outP t n) (2 * t.ls.length) := ⟨_, rfl⟩
    rw [← hl] at hm0
    have HG0 := hU hm0
    have HG1 := hU hg0
    have hll : l.length ≤ 512 := by rw [hl]; exact Nat.le_trans (ups_le _ _) (by omega)
    have HLM := hU (show ∀ z ∈ l, 0 ≤ z ∧ z < 2 * (t.ls.length : Int) from fun z hz => by rw [hl] at hz; have := mem_ups.1 hz; omega)
    obtain ⟨vn, hvn, hvc, hvo⟩ := HF.out.at_ (show n.toNat < N by omega)
    have hvo2 := hvo
    rw [show outN t (2 * t.ls.length) n.toNat = l from by rw [hl]; unfold outN; congr 1; funext z; unfold outP; rw [show ((n.toNat : Nat) : Int) = n by omega]] at hvo2
    obtain ⟨Al, cl, rfl, _, _, hrl⟩ := rd_of_own hvo2
    have HRL := hU hrl
    obtain ⟨db2, dof2, hA2, dnc0⟩ := dist_at HR.out HLEN.out hn0 hn1
    injection hA2 with hA2
    injection hA2 with e1 e2 _
    subst e1 e2
    have HDN := hU dnc0
    have HND := hU hnd
    replace hvc := aQ HBW.out hvc
    obtain ⟨g0, hg0e⟩ : ∃ g0, g0 = gk := ⟨_, rfl⟩
    have HGK := hU hg0e
    have HMG : Hid ((g0 : Int) = dD dist n) := hU (by rw [hg0e]; exact HMS.out.2.2)
    clear hm0 hg0 hvn hvo hvo2 hrl dnc0 hl hnd HXW hg0e
    go_wp2_with fail
    go_loopg [51, 14, 15] l.length (fun gk2 j v14 v15 wx => ∃ (q : Nat) (vp : Value), q + gk2 = l.length ∧ j = .int .i64 q ∧ v14 = vp ∧ v15 = .int .i64 n ∧ Hid (∀ z ∈ l.take q, ¬ goodA t dn dist n d z) ∧ Hid (wx.ownsRow w4.heap.size 3 1 vp path.length (path.map (Value.int .i64))) ∧ Hid (Below w4.heap.size w4 wx))
    case atStart => exact ⟨0, _, by omega, rfl, rfl, rfl, hU (by simp), HOW, HBW⟩
    case round =>
     clear HOW HBW
     obtain ⟨q, vp, hqg, rfl, rfl, rfl, HNG, HOW, HBW⟩ := hrel
     by_cases hlt : q < l.length
     ·have hlt' : (q : Int) < (l.length : Int) := by omega
      have HXW := hU (HX.out.up HBW.out)
      obtain ⟨b0, b1, b2⟩ := HXW.out.cells
      obtain ⟨bz, oz, a, hAz, haz, caz⟩ := ints_at (HRL.out.below HBW.out) hlt
      have HTK : Hid (l.take (q + 1) = l.take q ++ [a]) := hU (by rw [List.take_add_one, haz]; rfl)
      obtain ⟨ha0, ha1⟩ := HLM.out a (List.mem_of_getElem? haz)
      have hends := arc_ends2 HV.out ha0 ha1
      obtain ⟨m, hm⟩ : ∃ m, m = fZ t a := ⟨_, rfl⟩
      have HM := hU hm
      have hm0 : 0 ≤ m := by rw [hm]; exact hends.1
      have hm1 : m < (N : Int) := by have := hends.2.1; have := HNE.out; rw [hm]; omega
      obtain ⟨db3, dof3, hA3, dmc⟩ := dist_at HR.out HLEN.out hm0 hm1
      injection hA3 with hA3
      injection hA3 with e1 e2 _
      subst e1 e2
      have HDMC := hU dmc
      have HDMB := hU (show -1 ≤ dD dist m ∧ dD dist m ≤ 4194240 from ⟨HSR.out.lo m hm0 (by show m < ((t.n.toNat : Nat) : Int); have := HNE.out; omega), by have := HSR.out.hi m hm0 (by show m < ((t.n.toNat : Nat) : Int); have := HNE.out; omega); omega⟩)
      clear haz hends hm dmc
      subst hAz
      cases hu : upB dn a with
      | false =>
       have HBAD : Hid (¬ goodA t dn dist n d a) := hU (fun h => by have h1 := h.1; rw [hu] at h1; cases h1)
       go_wp2_with (first | (go_at_call 59; (with_reducible refine (graph_Head _ _ _ _ t a _ HXW.out.ta.ls ha0 ha1 (by omega)).mono ?_); rw [← HM.out]; rintro e w5 ⟨rfl, hb⟩; replace HXW := hU (HXW.out.up hb); replace HOW := hU (own_up HOW.out hb); replace HBW := hU (bQ HBW.out hb); clear hb b0 b1 b2 caz; obtain ⟨b0, b1, b2⟩ := HXW.out.cells) | (go_at_call 116; (with_reducible refine (graph_Down D dc dn a _ (HD.out.below HXW.out.hb) ha0 (by rcases HDL.out with h | h; exact .inl h; exact .inr (by omega))).mono ?_); rw [hu]; rintro e w6 ⟨rfl, hb⟩; replace HXW := hU (HXW.out.up hb); replace HOW := hU (own_up HOW.out hb); replace HBW := hU (bQ HBW.out hb); clear hb b0 b1 b2; obtain ⟨b0, b1, b2⟩ := HXW.out.cells))
       go_roundg (gk - 1)
       case measure => omega
       case rel => exact ⟨q + 1, _, by omega, by go_num, rfl, rfl, hU (by rw [HTK.out]; intro z hz; rcases List.mem_append.1 hz with hz | hz; exact HNG.out z hz; rw [List.mem_singleton.1 hz]; exact HBAD.out), HOW, HBW⟩
      | true =>
       by_cases hneg : dD dist m < 0
       ·have HBAD : Hid (¬ goodA t dn dist n d a) := hU (fun h => by have := h.2.1; rw [← HM.out] at this; omega)
        go_wp2_with (first | (go_at_call 59; (with_reducible refine (graph_Head _ _ _ _ t a _ HXW.out.ta.ls ha0 ha1 (by omega)).mono ?_); rw [← HM.out]; rintro e w5 ⟨rfl, hb⟩; replace HXW := hU (HXW.out.up hb); replace HOW := hU (own_up HOW.out hb); replace HBW := hU (bQ HBW.out hb); clear hb b0 b1 b2 caz; obtain ⟨b0, b1, b2⟩ := HXW.out.cells) | (go_at_call 116; (with_reducible refine (graph_Down D dc dn a _ (HD.out.below HXW.out.hb) ha0 (by rcases HDL.out with h | h; exact .inl h; exact .inr (by omega))).mono ?_); rw [hu]; rintro e w6 ⟨rfl, hb⟩; replace HXW := hU (HXW.out.up hb); replace HOW := hU (own_up HOW.out hb); replace HBW := hU (bQ HBW.out hb); clear hb b0 b1 b2; obtain ⟨b0, b1, b2⟩ := HXW.out.cells; have dmx := aQ HBW.out HDMC.out; have dnx := aQ HBW.out HDN.out))
        go_roundg (gk - 1)
        case measure => omega
        case rel => exact ⟨q + 1, _, by omega, by go_num, rfl, rfl, hU (by rw [HTK.out]; intro z hz; rcases List.mem_append.1 hz with hz | hz; exact HNG.out z hz; rw [List.mem_singleton.1 hz]; exact HBAD.out), HOW, HBW⟩
       ·by_cases hmd : m = d
        ·obtain rfl : d = m := hmd.symm
         go_upto_region 16 with (first | (go_at_call 59; (with_reducible refine (graph_Head _ _ _ _ t a _ HXW.out.ta.ls ha0 ha1 (by omega)).mono ?_); rw [← HM.out]; rintro e w5 ⟨rfl, hb⟩; replace HXW := hU (HXW.out.up hb); replace HOW := hU (own_up HOW.out hb); replace HBW := hU (bQ HBW.out hb); clear hb b0 b1 b2 caz; obtain ⟨b0, b1, b2⟩ := HXW.out.cells) | (go_at_call 116; (with_reducible refine (graph_Down D dc dn a _ (HD.out.below HXW.out.hb) ha0 (by rcases HDL.out with h | h; exact .inl h; exact .inr (by omega))).mono ?_); rw [hu]; rintro e w6 ⟨rfl, hb⟩; replace HXW := hU (HXW.out.up hb); replace HOW := hU (own_up HOW.out hb); replace HBW := hU (bQ HBW.out hb); clear hb b0 b1 b2; obtain ⟨b0, b1, b2⟩ := HXW.out.cells; have dmx := aQ HBW.out HDMC.out; have dnx := aQ HBW.out HDN.out))
         have HCW := hU (fun (W : World) (hW : Below w4.heap.size w4 W) => graph_Cost (.int .i64 t.n) (.slice A1 t.ov.length c1) A2 c2 t a W ((HX.out.up hW).ta.ls) ha0 ha1 (by omega))
         have hco := cost_bd HV.out ha0 ha1
         have hdmb := HDMB.out
         have hwr := IntWalk.wrap64_in (dD dist d + cost t a) (by omega)
         have HBQ := HBW
         obtain ⟨P1, P2, P3, P4, P5, -⟩ := kU b0 (kU b1 (kU b2 (kU dmx (kU dnx trivial))))
         refine wp_region_quiet_below (by kernel_rfl) (by kernel_rfl) ?_
         repeat (go_big_quiet_step ((with_reducible exact Calls.regrown_of (HCW.out _ (HBQ.out.trans ((below_regrown _ _ _).mono HBQ.out.size))))))
         refine wpQuiet_nil ?_
         intro W8 hb8
         replace hb8 := eQ hb8
         clear P1 P2 P3 P4 P5
         have zU := uU hb8 b0 (uU hb8 b1 (uU hb8 b2 (uU hb8 dmx (uU hb8 dnx trivial)))); clear b0 b1 b2 dmx dnx; obtain ⟨b0, b1, b2, dmx, dnx, -⟩ := zU
         clear hco hdmb hwr HCW HBQ
         replace HOW := hU (own_up HOW.out hb8)
         replace HBW := hU (bQ HBW.out hb8)
         clear hb8 b0 b1 b2 dmx dnx HXW
         by_cases heq : dD dist d + cost t a = dD dist n
         ·have hq : (dD dist d + cost t a == dD dist n) = true := beq_iff_eq.2 heq
          have HEQ := hU heq
          clear heq
          go_wp2_with (at_builtin; refine wpList_append_own _ rfl _ _ 63 rfl w4.heap.size 3 i0 (.int .i64 0) 1 8 Tryz.underlying63 hi hz0 hz1 hz2 rfl (by decide) _ _ _ rfl (HOW.out.alloc _) ⟨_, 0, none⟩ 1 1 [.int .i64 a] rfl rfl (cell_one_new _ _ _) ?c2 ?c3 ?c4 ?c5 ?_)
          case c2 => intro u hu; simp at hu; subst hu; rfl
          case c3 => have := HMS.out; have := HDS.out; unfold maxLen; omega
          case c4 => have := HMS.out; have := HDS.out; simp; omega
          case c5 => have := HBW.out.size; simp; omega
          intro v' w9 hown' hgrow _
          have R := own_next HOW.out HBW.out.size hown' hgrow
          have hb9 : Below w4.heap.size w4 w9 := HBW.out.trans R.2
          have HO9 := hU R.1
          have HB9 := hU hb9
          clear hown' hgrow R hb9
          go_wp2_with fail
          go_roundg (dD dist d).toNat
          case measure => have := HEQ.out; have := HMG.out; have := HGK.out; have := HDMB.out; have := cost_bd HV.out ha0 ha1; omega
          case rel => exact ⟨d, path ++ [a], rfl, hm0, hm1, hU (by simpa using HO9.out), HB9, hU (by have := HEQ.out; have := HMS.out; have := HDMB.out; have := cost_bd HV.out ha0 ha1; simp; omega)⟩
         ·have hq : (dD dist d + cost t a == dD dist n) = false := beq_eq_false_iff_ne.2 heq
          have HBAD : Hid (¬ goodA t dn dist n d a) := hU (fun h => heq (by rw [HM.out]; exact h.2.2.2))
          clear heq
          go_wp2_with fail
          go_roundg (gk - 1)
          case measure => omega
          case rel => exact ⟨q + 1, _, by omega, by go_num, rfl, rfl, hU (by rw [HTK.out]; intro z hz; rcases List.mem_append.1 hz with hz | hz; exact HNG.out z hz; rw [List.mem_singleton.1 hz]; exact HBAD.out), HOW, HBW⟩
        ·have hmdb : (m != d) = true := bne_iff_ne.2 hmd
         have HMD := hU hmd
         clear hmd
         cases ho : over t m with
         | true =>
          have HBAD : Hid (¬ goodA t dn dist n d a) := hU (fun h => by
           have h3 := h.2.2.1
           rw [← HM.out] at h3
           rcases h3 with h3 | h3
           ·exact HMD.out h3
           ·rw [ho] at h3; cases h3)
          go_wp2_with (first | (go_at_call 59; (with_reducible refine (graph_Head _ _ _ _ t a _ HXW.out.ta.ls ha0 ha1 (by omega)).mono ?_); rw [← HM.out]; rintro e w5 ⟨rfl, hb⟩; replace HXW := hU (HXW.out.up hb); replace HOW := hU (own_up HOW.out hb); replace HBW := hU (bQ HBW.out hb); clear hb b0 b1 b2 caz; obtain ⟨b0, b1, b2⟩ := HXW.out.cells) | (go_at_call 116; (with_reducible refine (graph_Down D dc dn a _ (HD.out.below HXW.out.hb) ha0 (by rcases HDL.out with h | h; exact .inl h; exact .inr (by omega))).mono ?_); rw [hu]; rintro e w6 ⟨rfl, hb⟩; replace HXW := hU (HXW.out.up hb); replace HOW := hU (own_up HOW.out hb); replace HBW := hU (bQ HBW.out hb); clear hb b0 b1 b2; obtain ⟨b0, b1, b2⟩ := HXW.out.cells; have dmx := aQ HBW.out HDMC.out; have dnx := aQ HBW.out HDN.out) | (go_at_call 115; (with_reducible refine (graph_Over _ _ _ _ t m _ HXW.out.ta.ov hm0 (by rcases HOV.out with h | h; exact .inl h; exact .inr (by have := HNE.out; omega))).mono ?_); rw [ho]; rintro e w7 ⟨rfl, hb⟩; replace HXW := hU (HXW.out.up hb); replace HOW := hU (own_up HOW.out hb); replace HBW := hU (bQ HBW.out hb); clear hb b0 b1 b2 dmx dnx; obtain ⟨b0, b1, b2⟩ := HXW.out.cells; have dmx := aQ HBW.out HDMC.out; have dnx := aQ HBW.out HDN.out))
          go_roundg (gk - 1)
          case measure => omega
          case rel => exact ⟨q + 1, _, by omega, by go_num, rfl, rfl, hU (by rw [HTK.out]; intro z hz; rcases List.mem_append.1 hz with hz | hz; exact HNG.out z hz; rw [List.mem_singleton.1 hz]; exact HBAD.out), HOW, HBW⟩
         | false =>
          go_upto_region 16 with (first | (go_at_call 59; (with_reducible refine (graph_Head _ _ _ _ t a _ HXW.out.ta.ls ha0 ha1 (by omega)).mono ?_); rw [← HM.out]; rintro e w5 ⟨rfl, hb⟩; replace HXW := hU (HXW.out.up hb); replace HOW := hU (own_up HOW.out hb); replace HBW := hU (bQ HBW.out hb); clear hb b0 b1 b2 caz; obtain ⟨b0, b1, b2⟩ := HXW.out.cells) | (go_at_call 116; (with_reducible refine (graph_Down D dc dn a _ (HD.out.below HXW.out.hb) ha0 (by rcases HDL.out with h | h; exact .inl h; exact .inr (by omega))).mono ?_); rw [hu]; rintro e w6 ⟨rfl, hb⟩; replace HXW := hU (HXW.out.up hb); replace HOW := hU (own_up HOW.out hb); replace HBW := hU (bQ HBW.out hb); clear hb b0 b1 b2; obtain ⟨b0, b1, b2⟩ := HXW.out.cells; have dmx := aQ HBW.out HDMC.out; have dnx := aQ HBW.out HDN.out) | (go_at_call 115; (with_reducible refine (graph_Over _ _ _ _ t m _ HXW.out.ta.ov hm0 (by rcases HOV.out with h | h; exact .inl h; exact .inr (by have := HNE.out; omega))).mono ?_); rw [ho]; rintro e w7 ⟨rfl, hb⟩; replace HXW := hU (HXW.out.up hb); replace HOW := hU (own_up HOW.out hb); replace HBW := hU (bQ HBW.out hb); clear hb b0 b1 b2 dmx dnx; obtain ⟨b0, b1, b2⟩ := HXW.out.cells; have dmx := aQ HBW.out HDMC.out; have dnx := aQ HBW.out HDN.out))
          have HCW := hU (fun (W : World) (hW : Below w4.heap.size w4 W) => graph_Cost (.int .i64 t.n) (.slice A1 t.ov.length c1) A2 c2 t a W ((HX.out.up hW).ta.ls) ha0 ha1 (by omega))
          have hco := cost_bd HV.out ha0 ha1
          have hdmb := HDMB.out
          have hwr := IntWalk.wrap64_in (dD dist m + cost t a) (by omega)
          have HBQ := HBW
          obtain ⟨P1, P2, P3, P4, P5, -⟩ := kU b0 (kU b1 (kU b2 (kU dmx (kU dnx trivial))))
          refine wp_region_quiet_below (by kernel_rfl) (by kernel_rfl) ?_
          repeat (go_big_quiet_step ((with_reducible exact Calls.regrown_of (HCW.out _ (HBQ.out.trans ((below_regrown _ _ _).mono HBQ.out.size))))))
          refine wpQuiet_nil ?_
          intro W8 hb8
          replace hb8 := eQ hb8
          clear P1 P2 P3 P4 P5
          have zU := uU hb8 b0 (uU hb8 b1 (uU hb8 b2 (uU hb8 dmx (uU hb8 dnx trivial)))); clear b0 b1 b2 dmx dnx; obtain ⟨b0, b1, b2, dmx, dnx, -⟩ := zU
          clear hco hdmb hwr HCW HBQ
          replace HOW := hU (own_up HOW.out hb8)
          replace HBW := hU (bQ HBW.out hb8)
          clear hb8 b0 b1 b2 dmx dnx HXW
          by_cases heq : dD dist m + cost t a = dD dist n
          ·have hq : (dD dist m + cost t a == dD dist n) = true := beq_iff_eq.2 heq
           have HEQ := hU heq
           clear heq
           go_wp2_with (at_builtin; refine wpList_append_own _ rfl _ _ 63 rfl w4.heap.size 3 i0 (.int .i64 0) 1 8 Tryz.underlying63 hi hz0 hz1 hz2 rfl (by decide) _ _ _ rfl (HOW.out.alloc _) ⟨_, 0, none⟩ 1 1 [.int .i64 a] rfl rfl (cell_one_new _ _ _) ?c2 ?c3 ?c4 ?c5 ?_)
           case c2 => intro u hu; simp at hu; subst hu; rfl
           case c3 => have := HMS.out; have := HDS.out; unfold maxLen; omega
           case c4 => have := HMS.out; have := HDS.out; simp; omega
           case c5 => have := HBW.out.size; simp; omega
           intro v' w9 hown' hgrow _
           have R := own_next HOW.out HBW.out.size hown' hgrow
           have hb9 : Below w4.heap.size w4 w9 := HBW.out.trans R.2
           have HO9 := hU R.1
           have HB9 := hU hb9
           clear hown' hgrow R hb9
           go_wp2_with fail
           go_roundg (dD dist m).toNat
           case measure => have := HEQ.out; have := HMG.out; have := HGK.out; have := HDMB.out; have := cost_bd HV.out ha0 ha1; omega
           case rel => exact ⟨m, path ++ [a], rfl, hm0, hm1, hU (by simpa using HO9.out), HB9, hU (by have := HEQ.out; have := HMS.out; have := HDMB.out; have := cost_bd HV.out ha0 ha1; simp; omega)⟩
          ·have hq : (dD dist m + cost t a == dD dist n) = false := beq_eq_false_iff_ne.2 heq
           have HBAD : Hid (¬ goodA t dn dist n d a) := hU (fun h => heq (by rw [HM.out]; exact h.2.2.2))
           clear heq
           go_wp2_with fail
           go_roundg (gk - 1)
           case measure => omega
           case rel => exact ⟨q + 1, _, by omega, by go_num, rfl, rfl, hU (by rw [HTK.out]; intro z hz; rcases List.mem_append.1 hz with hz | hz; exact HNG.out z hz; rw [List.mem_singleton.1 hz]; exact HBAD.out), HOW, HBW⟩
     ·exfalso
      obtain rfl : q = l.length := by omega
      have := HNG.out
      rw [List.take_length] at this
      exact this _ HG0.out HG1.out
end
end
end Go.Proofs.YtdnjflpmbnjgeaaGreat
