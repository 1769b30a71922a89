/-
  postconv.find, Reaches, Safe.
  component.links: what its iterator yields: the numbers of the links of a component, in increasing order.
  component.Arcs: what it returns, for every topology and component.
  What component.Mask and Within need, without a walk.
-/
import Derived.Test.YtdnjflpmbnjgeaaGreatSpfPa
import Derived.Test.YtdnjflpmbnjgeaaGreatPkRtJ
import Derived.RangeFuncNested
import Derived.RangeFuncBound
import Derived.RangeFuncCalls
import Derived.RangeFuncLeaves
import Derived.RangeFuncBox
import Derived.Shelf.Abstract
import Derived.OwnWalkIn
import Derived.TacticsInMore
import Derived.LoopNIn
import Derived.LoopIn
import Derived.Maps.AppendAt
import Derived.Laws.Rows
set_option linter.unusedSimpArgs false
set_option linter.unusedVariables false
namespace Go.Proofs.YtdnjflpmbnjgeaaGreat
section
open Go.RowKit Go.Sort
/-- A call that returns whether something holds. -/
def RetBP (w : World) (p : Prop) (e : Ending) (w' : World) : Prop := ∃ b : Bool, e = .returned (.bool b) ∧ (b = true ↔ p) ∧ Below w.heap.size w w'
theorem RetBP.mk {w w' : World} {p : Prop} (b : Bool) {e : Ending} (he : e = .returned (.bool b)) (h : b = true ↔ p) (hb : Below w.heap.size w w') : RetBP w p e w' := ⟨b, he, h, hb⟩
section
variable {w : World} {A1 A2 D : Option Addr} {t : Topo} {dn : List Bool}
theorem pc_none (l : Value) : Calls Tryz.prog 72 #[l] w fun e w' => e = .returned (.tuple #[]) ∧ Below w.heap.size w w' := by
 have HB := hU (Below.refl w.heap.size w)
 go_enter Tryz.func72, Tryz.ntmps72
 go_wp2_with fail
 go_end0
 exact ⟨rfl, HB.out⟩
set_option maxRecDepth 100000 in
set_option maxHeartbeats 2000000 in
theorem pc_find (c1 c2 dc : Nat) (s d : Int) (hv : valid t = true) (hs : isN t.n s = true) (hd : isN t.n d = true) (hT : TAt w A1 A2 t) (hD : Rd w D (dn.map Value.bool)) (hdl : dn.length = 0 ∨ dn.length = 2 * t.ls.length) :
    Calls Tryz.prog 71 #[.agg #[.int .i64 t.n, .slice A1 t.ov.length c1, .slice A2 t.ls.length c2], .slice D dn.length dc, .int .i64 s, .int .i64 d, .func (.func 72) #[] #[]] w fun e w' => ∃ x : Int, e = .returned (.int .i64 x) ∧ (x = 0 ↔ reach t dn s d) ∧ Below w.heap.size w w' := by
 have hX := TBox.start c1 c2 hT
 obtain ⟨b0, b1, b2⟩ := hX.cells
 have HX := hU hX
 have HP := hU (spf_Path (w := w.alloc (.cells #[.int .i64 t.n, .slice A1 t.ov.length c1, .slice A2 t.ls.length c2] 25)) c1 c2 dc s d hv hs hd (hX.ta) (hD.below hX.hb) hdl)
 clear hX hT hv hs hd hD hdl
 go_enter Tryz.func71, Tryz.ntmps71
 go_upto_region 2 with (go_at_call 102; (with_reducible refine HP.out.mono ?_); rintro e w2 ⟨A, n, c, x, rfl, hx, hb⟩; have HRE := hU hx; have HB := hU (bQ HX.out.hb hb); clear hx hb b0 b1 b2 HP)
 by_cases h : x = 0
 ·subst h
  go_wp2_with (go_at_call 72; (with_reducible refine (pc_none _).mono ?_); rintro e w3 ⟨rfl, hb⟩; replace HB := hU (bQ HB.out hb); clear hb)
  go_ret
  exact ⟨0, rfl, by simpa using HRE.out, HB.out⟩
 ·have hb : (x == 0) = false := beq_eq_false_iff_ne.2 h
  have HH := hU h
  clear h
  go_wp2_with fail
  go_ret
  exact ⟨x, rfl, HRE.out, HB.out⟩
set_option maxRecDepth 100000 in
theorem pc_Reaches (c1 c2 dc : Nat) (s d : Int) (hv : valid t = true) (hs : isN t.n s = true) (hd : isN t.n d = true) (hT : TAt w A1 A2 t) (hD : Rd w D (dn.map Value.bool)) (hdl : dn.length = 0 ∨ dn.length = 2 * t.ls.length) :
    Calls Tryz.prog 39 #[.agg #[.int .i64 t.n, .slice A1 t.ov.length c1, .slice A2 t.ls.length c2], .slice D dn.length dc, .int .i64 s, .int .i64 d] w (RetBP w (reach t dn s d)) := by
 have hX := TBox.start c1 c2 hT
 obtain ⟨b0, b1, b2⟩ := hX.cells
 have HX := hU hX
 have HP := hU (pc_find (w := w.alloc (.cells #[.int .i64 t.n, .slice A1 t.ov.length c1, .slice A2 t.ls.length c2] 25)) c1 c2 dc s d hv hs hd (hX.ta) (hD.below hX.hb) hdl)
 clear hX hT hv hs hd hD hdl
 go_enter Tryz.func39, Tryz.ntmps39
 go_wp2_with (go_at_call 71; (with_reducible refine HP.out.mono ?_); rintro e w2 ⟨x, rfl, hx, hb⟩; have HRE := hU hx; have HB := hU (bQ HX.out.hb hb); clear hx hb b0 b1 b2 HP)
 go_ret
 exact .mk (x == 0) rfl (by rw [beq_iff_eq]; exact HRE.out) HB.out
theorem spf_Dist0 (c1 c2 : Nat) (d : Int) (hv : valid t = true) (hd : isN t.n d = true) (hT : TAt w A1 A2 t) :
    Calls Tryz.prog 70 #[.agg #[.int .i64 t.n, .slice A1 t.ov.length c1, .slice A2 t.ls.length c2], .slice none 0 0, .int .i64 d] w fun e w' => ∃ (A : Option Addr) (c : Nat) (dist : List Int), e = .returned (.tuple #[.slice A dist.length c, .int .i64 0]) ∧ Rd w' A (dist.map (Value.int .i64)) ∧ SR (sgDist t [] d) dist ∧ Below w.heap.size w w' :=
 spf_Dist (dn := []) (D := none) c1 c2 0 d hv hd hT (.inl rfl) (.inl rfl)
/-- Every node but one that reached a destination still does. -/
def safeP (t : Topo) (dn : List Bool) (gone d : Int) : Prop := ∀ n, 0 ≤ n → n < t.n → n ≠ gone → reach t [] n d → reach t dn n d
set_option maxRecDepth 100000 in
set_option maxHeartbeats 4000000 in
theorem pc_Safe (c1 c2 dc : Nat) (gone d : Int) (hv : valid t = true) (hd : isN t.n d = true) (hT : TAt w A1 A2 t) (hD : Rd w D (dn.map Value.bool)) (hdl : dn.length = 0 ∨ dn.length = 2 * t.ls.length) :
    Calls Tryz.prog 38 #[.agg #[.int .i64 t.n, .slice A1 t.ov.length c1, .slice A2 t.ls.length c2], .slice D dn.length dc, .int .i64 gone, .int .i64 d] w (RetBP w (safeP t dn gone d)) := by
 have hL := zQ hv
 have hN := iZ hv
 have hX := TBox.start c1 c2 hT
 obtain ⟨b0, b1, b2⟩ := hX.cells
 have HX := hU hX
 have HV := hU hv
 have HD := hU hD
 have HDL := hU hdl
 have HDD := hU hd
 have HN := hU hN
 have hfit : (decide (dn.length = 0) || decide (dn.length = 2 * t.ls.length)) = true := by rcases hdl with h | h <;> simp [h]
 have HF := hU hfit
 clear hX hT hv hd hD hdl hN hfit
 go_enter Tryz.func38, Tryz.ntmps38
 go_upto_region 5 with (first | (go_at_call 29; (with_reducible refine (topology_Valid t _ _ _ _ _ HX.out.ta.ls).mono ?_); rw [HV.out]; rintro e w2 ⟨rfl, hb⟩; replace HX := hU (HX.out.up hb); clear hb b0 b1 b2; obtain ⟨b0, b1, b2⟩ := HX.out.cells) | (go_at_call 69; (with_reducible refine (graph_Fits t _ _ _ _ _ _ _ _ (by omega)).mono ?_); rw [HF.out]; rintro e w3 ⟨rfl, hb⟩; replace HX := hU (HX.out.up hb); clear hb b0 b1 b2; obtain ⟨b0, b1, b2⟩ := HX.out.cells) | (go_at_call 32; (with_reducible refine (cZ _ _ _ _ _).mono ?_); rw [HDD.out]; rintro e w4 ⟨rfl, hb⟩; replace HX := hU (HX.out.up hb); clear hb b0 b1 b2; obtain ⟨b0, b1, b2⟩ := HX.out.cells) | (go_at_call 70; (with_reducible refine (spf_Dist0 _ _ d HV.out HDD.out HX.out.ta).mono ?_); rintro e w5 ⟨A0, c0, dist0, rfl, hr, hsr, hb⟩; replace HX := hU (HX.out.up hb); have HR0 := hU hr; have HSR0 := hU hsr; clear hb hr hsr b0 b1 b2; obtain ⟨b0, b1, b2⟩ := HX.out.cells) | (go_at_call 70; (with_reducible refine (spf_Dist _ _ _ d HV.out HDD.out HX.out.ta (HD.out.below HX.out.hb) HDL.out).mono ?_); rintro e w6 ⟨A9, c9, dist9, rfl, hr, hsr, hb⟩; replace HX := hU (HX.out.up hb); replace HR0 := hU (HR0.out.below hb); have HR9 := hU hr; have HSR9 := hU hsr; clear hb hr hsr b0 b1 b2; obtain ⟨b0, b1, b2⟩ := HX.out.cells))
 obtain ⟨N, hNe⟩ : ∃ N : Nat, t.n = (N : Int) := ⟨t.n.toNat, by have := HN.out; omega⟩
 have HNE := hU hNe
 have HL0 := hU (show dist0.length = N by rw [HSR0.out.len]; show t.n.toNat = N; omega)
 have HL9 := hU (show dist9.length = N by rw [HSR9.out.len]; show t.n.toNat = N; omega)
 have HI0 := hU (fun (n : Int) (h0 : 0 ≤ n) (h1 : n < (N : Int)) => (HSR0.out.iff (sgDist_ok HV.out HDD.out) h0 (by show n < ((t.n.toNat : Nat) : Int); omega)).trans rchDist)
 have HI9 := hU (fun (n : Int) (h0 : 0 ≤ n) (h1 : n < (N : Int)) => (HSR9.out.iff (sgDist_ok HV.out HDD.out) h0 (by show n < ((t.n.toNat : Nat) : Int); omega)).trans rchDist)
 have hN64 : N ≤ 64 := by have := HN.out; omega
 have e0 := HL0.out
 have e9 := HL9.out
 rw [e0, e9]
 clear e0 e9
 rw [hNe] at b0
 clear hNe
 go_wp2_with fail
 go_loop [44] (fun i => ∃ k : Nat, k ≤ N ∧ i = .int .i64 k ∧ Hid (∀ n, 0 ≤ n → n < (k : Int) → n ≠ gone → reach t [] n d → reach t dn n d)) (fun i => N - (intOf i).toNat)
 case atStart => exact ⟨0, Nat.zero_le _, rfl, hU (fun n h0 h1 => by omega)⟩
 case round =>
  obtain ⟨k, hk, rfl, HK⟩ := hrel
  by_cases hlt : k < N
  ·have hlt' : (k : Int) < (N : Int) := by omega
   obtain ⟨p0, o0, hA0, d0⟩ := dist_at HR0.out HL0.out (i := (k : Int)) (by omega) hlt'
   obtain ⟨p9, o9, hA9, d9⟩ := dist_at HR9.out HL9.out (i := (k : Int)) (by omega) hlt'
   rw [show ((k : Int)).toNat = k by omega] at d0 d9
   have i0 := HI0.out k (by omega) hlt'
   have i9 := HI9.out k (by omega) hlt'
   have HI0k := hU i0
   have HI9k := hU i9
   clear i0 i9
   subst hA0 hA9
   have good : ((k : Int) ≠ gone → reach t [] k d → reach t dn k d) → Hid (∀ n, 0 ≤ n → n < ((k + 1 : Nat) : Int) → n ≠ gone → reach t [] n d → reach t dn n d) := fun h => hU (fun n h0 h1 h2 => by
    by_cases e : n = (k : Int)
    ·subst e; exact h h2
    ·exact HK.out n h0 (by omega) h2)
   have HGO := hU good
   clear good
   by_cases hg : (k : Int) = gone
   ·have HG := hU hg
    have hgb : ((k : Int) != gone) = false := by simp [hg]
    clear hg
    go_wp2_with fail
    go_round
    case rel => exact ⟨k + 1, by omega, by go_num, HGO.out (fun h => absurd HG.out h)⟩
    case measure => simp [intOf]; omega
   ·have hgb : ((k : Int) != gone) = true := bne_iff_ne.2 hg
    have HG := hU hg
    clear hg
    by_cases h0 : 0 ≤ dD dist0 k
    ·by_cases h9 : dD dist9 k < 0
     ·have HNO : Hid (¬ safeP t dn gone d) := hU (fun h => by
       have h1 := h k (by omega) (by have := HNE.out; omega) HG.out (HI0k.out.1 h0)
       have := HI9k.out.2 h1
       omega)
      go_wp2_with fail
      go_ret
      exact .mk false rfl ⟨fun h => (by cases h), fun h => absurd h HNO.out⟩ HX.out.hb
     ·have HYES := hU (HI9k.out.1 (by omega))
      go_wp2_with fail
      go_round
      case rel => exact ⟨k + 1, by omega, by go_num, HGO.out (fun _ _ => HYES.out)⟩
      case measure => simp [intOf]; omega
    ·have HNR : Hid (¬ reach t [] k d) := hU (fun h => h0 (HI0k.out.2 h))
     go_wp2_with fail
     go_round
     case rel => exact ⟨k + 1, by omega, by go_num, HGO.out (fun _ h => absurd h HNR.out)⟩
     case measure => simp [intOf]; omega
  ·obtain rfl : k = N := by omega
   have HYES : Hid (safeP t dn gone d) := hU (fun n h0 h1 => HK.out n h0 (by have := HNE.out; omega))
   go_wp2_with fail
   go_ret
   exact .mk true rfl ⟨fun _ => HYES.out, fun _ => rfl⟩ HX.out.hb
end
end
section
open Go.RowKit Go.Shelf
attribute [local go_sem] Oper.semAt_some
/-- Is a link one of a component? -/
def part (t : Topo) (k m : Int) (i : Int) : Bool :=
 let l := t.ls.getD i.toNat default
 if k = 1 then i == m else if k = 2 then l.a == m || l.b == m else l.g == m
def linksL (t : Topo) (k m : Int) (n : Nat) : List Int := ups (part t k m) n
theorem part2 {t : Topo} {m : Int} {i : Nat} {l : Lnk} (h : t.ls[i]? = some l) : part t 2 m i = (l.a == m || l.b == m) := by simp [part, h]
theorem part3 {t : Topo} {m : Int} {i : Nat} {l : Lnk} (h : t.ls[i]? = some l) : part t 3 m i = (l.g == m) := by simp [part, h]
/-- The number of a link. -/
def Lk (n : Nat) : Type := { x : Int // 0 ≤ x ∧ x < (n : Int) }
def mkL {n j : Nat} (h : j < n) : Lk n := ⟨(j : Int), by omega, by omega⟩
theorem mkL_val {n j : Nat} (h : j < n) : (mkL h).1 = (j : Int) := rfl
def linksK (t : Topo) (k m : Int) : Nat → List (Lk t.ls.length)
 | 0 => []
 | j + 1 => if h : j < t.ls.length then (if part t k m j = true then linksK t k m j ++ [mkL h] else linksK t k m j) else linksK t k m j
theorem linksK_le (t : Topo) (k m : Int) : ∀ j, (linksK t k m j).length ≤ j
 | 0 => Nat.le_refl _
 | j + 1 => by
  have := linksK_le t k m j
  unfold linksK
  split
  ·split
   ·simp; omega
   ·omega
  ·omega
theorem linksK_hit {t : Topo} {k m : Int} {j : Nat} (hj : j < t.ls.length) (h : part t k m j = true) : linksK t k m (j + 1) = linksK t k m j ++ [mkL hj] := by simp [linksK, h, hj]
theorem linksK_miss {t : Topo} {k m : Int} {j : Nat} (h : part t k m j = false) : linksK t k m (j + 1) = linksK t k m j := by simp [linksK, h]
theorem linksK_val (t : Topo) (k m : Int) : ∀ j, j ≤ t.ls.length → (linksK t k m j).map (·.1) = linksL t k m j
 | 0, _ => rfl
 | j + 1, h => by
  have ih := linksK_val t k m j (by omega)
  have hj : j < t.ls.length := by omega
  by_cases hp : part t k m j = true
  ·rw [linksK_hit hj hp, List.map_append, ih]
   simp [linksL, ups, hp, mkL_val]
  ·simp only [Bool.not_eq_true] at hp
   rw [linksK_miss hp, ih]
   simp [linksL, ups, hp]
/-- What a round of the loop keeps: all that lay below n₀, and the block of the component. -/
def Kq (n₀ Bc : Nat) (W W' : World) : Prop := Below n₀ W W' ∧ W'.heap[Bc]? = W.heap[Bc]?
theorem Kq.trans {n₀ Bc : Nat} {A B C : World} (h : Kq n₀ Bc A B) (g : Kq n₀ Bc B C) : Kq n₀ Bc A C := ⟨h.1.trans g.1, g.2.trans h.2⟩
theorem Kq.cell {n₀ Bc o : Nat} {W W' : World} (h : Kq n₀ Bc W W') : W'.cell? ⟨Bc, o, none⟩ = W.cell? ⟨Bc, o, none⟩ := World.cell?_of_block (w := W) h.2
theorem Kq.alloc {n₀ Bc : Nat} (W : World) (o : Obj) (h1 : n₀ ≤ W.heap.size) (h2 : Bc < W.heap.size) : Kq n₀ Bc W (W.alloc o) := ⟨(Below.refl _ W).alloc h1 o, Below.heap_alloc W o Bc h2⟩
set_option maxRecDepth 100000 in
set_option maxHeartbeats 4000000 in
theorem links1_in (F : Fence) (n : Nat) (h47 : F.fn 111) (hro : F.round = none) (hn : 1 ≤ n) (l Bt Bc n₀ : Nat) (t : Topo) (b o c2 : Nat) (k m : Int) (hk : k = 1 ∨ k = 2 ∨ k = 3) (hlen : t.ls.length ≤ 100000) (hb : b < n₀) (J Jx : List (Lk t.ls.length) → World → Prop)
    (W : World) (hJ : AbidesFrom W.heap.size J) (hBcW : Bc < W.heap.size) (hn₀ : n₀ ≤ W.heap.size)
    (hY : ∀ pre x W, J pre W → pre.length < t.ls.length → YieldAt F (n - 1) Tryz.prog l #[.int .i64 x.1] W fun e W' =>
     (e = .returned (.bool true) ∧ J (pre ++ [x]) W' ∧ Kq n₀ Bc W W') ∨ (e = .returned (.bool false) ∧ Jx (pre ++ [x]) W'))
    (hBt : W.cell? ⟨Bt, 2, none⟩ = some (.slice (some ⟨b, o, none⟩) t.ls.length c2)) (hB0 : W.cell? ⟨Bc, 0, none⟩ = some (.int .i64 k)) (hB1 : W.cell? ⟨Bc, 1, none⟩ = some (.int .i64 m))
    (hc : ∀ (j : Nat) (x : Lnk), t.ls[j]? = some x → LAt W b (o + j * 7) x) (h0 : J [] W) :
    CallsIn F n Tryz.prog 111 #[.func (.yield l) #[] #[], .pointer (some ⟨Bt, 0, none⟩), .pointer (some ⟨Bc, 0, none⟩)] W fun e W' => (∃ v, e = .returned v) ∧
     ((∃ ys, ys = linksK t k m t.ls.length ∧ J ys W') ∨ (∃ pre, (∃ j, j ≤ t.ls.length ∧ pre = linksK t k m j) ∧ Jx pre W')) := by
 refine callsIn_of_wp Tryz.func111 rfl h47 ?_ hro
 simp only [Tryz.ntmps111, List.size_toArray, List.length_cons, List.length_nil, Nat.reduceAdd, Nat.reduceSub, Array.replicate_succ, Array.replicate_zero, List.push_toArray, List.append_toArray, List.nil_append, List.cons_append]
 have HJ := hU hJ
 have HC := hU hc
 have HY := hU hY
 have H0 := hU h0
 clear hJ hc hY h0
 gi_wp2
 gi_loopw [10] (fun i wr => ∃ j : Nat, j ≤ t.ls.length ∧ i = .int .i64 j ∧ Hid (J (linksK t k m j) wr) ∧ Hid (Kq n₀ Bc W wr) ∧ Hid (W.heap.size ≤ wr.heap.size)) (fun i _ => t.ls.length - (intOf i).toNat)
 case atStart => exact ⟨0, Nat.zero_le _, rfl, H0, hU ⟨Below.refl _ _, rfl⟩, hU (Nat.le_refl _)⟩
 case round =>
  obtain ⟨j, hj, rfl, HJs, HK, HS⟩ := hrel
  by_cases hlt : j < t.ls.length
  ·obtain ⟨x, hx⟩ : ∃ x, t.ls[j]? = some x := ⟨_, List.getElem?_eq_getElem hlt⟩
   have hL := HC.out j x hx
   have hbel := HK.out.1
   have q0 := (hbel.cell (p := ⟨b, o + j * 7, none⟩) hb).trans hL.q0
   have q1 := (hbel.cell (p := ⟨b, o + j * 7 + 1, none⟩) hb).trans hL.q1
   have q2 := (hbel.cell (p := ⟨b, o + j * 7 + 2, none⟩) hb).trans hL.q2
   have q3 := (hbel.cell (p := ⟨b, o + j * 7 + 3, none⟩) hb).trans hL.q3
   have q4 := (hbel.cell (p := ⟨b, o + j * 7 + 4, none⟩) hb).trans hL.q4
   have q5 := (hbel.cell (p := ⟨b, o + j * 7 + 5, none⟩) hb).trans hL.q5
   have q6 := (hbel.cell (p := ⟨b, o + j * 7 + 6, none⟩) hb).trans hL.q6
   have d0 := (HK.out.cell (o := 0)).trans hB0
   have d1 := (HK.out.cell (o := 1)).trans hB1
   have hBcr : Bc < wr.heap.size := Nat.lt_of_lt_of_le hBcW HS.out
   have hne : wr.heap.size ≠ Bc := by omega
   have hne2 : Bc ≠ wr.heap.size := by omega
   have HX := hU hx
   have HJ2 : Hid (J (linksK t k m j) (wr.alloc (.cells #[.int .i64 x.a, .int .i64 x.b, .int .i64 x.c0, .int .i64 x.c1, .int .i64 x.cap, .int .i64 x.dl, .int .i64 x.g] 41))) := hU (HJ.out _ _ _ none HJs.out (World.grownBy_alloc wr _ none) (by simp))
   have HK2 : Hid (Kq n₀ Bc W (wr.alloc (.cells #[.int .i64 x.a, .int .i64 x.b, .int .i64 x.c0, .int .i64 x.c1, .int .i64 x.cap, .int .i64 x.dl, .int .i64 x.g] 41))) := hU (HK.out.trans (Kq.alloc wr _ (Nat.le_trans hn₀ HS.out) hBcr))
   have HS2 : Hid (W.heap.size ≤ ((wr.alloc (.cells #[.int .i64 x.a, .int .i64 x.b, .int .i64 x.c0, .int .i64 x.c1, .int .i64 x.cap, .int .i64 x.dl, .int .i64 x.g] 41))).heap.size) := hU (by have := HS.out; simp; omega)
   obtain ⟨fn, tmps, assign, body, hy, hR⟩ := HY.out _ (mkL hlt) _ HJ2.out (Nat.lt_of_le_of_lt (linksK_le _ _ _ _) hlt)
   rw [mkL_val] at hy
   have hlt' : (j : Int) < (t.ls.length : Int) := by omega
   clear hx hL hbel HK HJs HS
   rcases hk with rfl | rfl | rfl
   ·cases hp : ((j : Int) == m) with
    | true =>
     have HP : Hid (part t 1 m j = true) := hU hp
     gi_wp2
     refine hR.mono ?_
     rintro e W3 (⟨rfl, hJ3, hk3⟩ | ⟨rfl, hJx3⟩)
     ·have HJ3 := hU hJ3
      have HK3 := hU (HK2.out.trans hk3)
      have HS3 := hU (Nat.le_trans HS2.out hk3.1.size)
      clear hJ3 hk3 hR hy
      gi_wp2
      go_roundw
      case rel => exact ⟨j + 1, by omega, by simp, hU (by rw [linksK_hit hlt HP.out]; exact HJ3.out), HK3, HS3⟩
      case measure => simp [intOf]; omega
     ·gi_wp2
      refine bodyPost_ret (results_none rfl _ _ _) rfl ?_
      exact ⟨⟨_, rfl⟩, .inr ⟨_, ⟨j + 1, by omega, (linksK_hit hlt HP.out).symm⟩, hJx3⟩⟩
    | false =>
     have HP : Hid (part t 1 m j = false) := hU hp
     clear hR hy
     gi_wp2
     refine ⟨fun _ h => (by cases h), ?_⟩
     gi_wp2
     go_roundw
     case rel => exact ⟨j + 1, by omega, by simp, hU (by rw [linksK_miss HP.out]; exact HJ2.out), HK2, HS2⟩
     case measure => simp [intOf]; omega
   ·cases hp : (x.a == m) with
    | true =>
     have HP : Hid (part t 2 m j = true) := hU (by rw [part2 HX.out, hp]; rfl)
     gi_wp2
     refine hR.mono ?_
     rintro e W3 (⟨rfl, hJ3, hk3⟩ | ⟨rfl, hJx3⟩)
     ·have HJ3 := hU hJ3
      have HK3 := hU (HK2.out.trans hk3)
      have HS3 := hU (Nat.le_trans HS2.out hk3.1.size)
      clear hJ3 hk3 hR hy
      gi_wp2
      go_roundw
      case rel => exact ⟨j + 1, by omega, by simp, hU (by rw [linksK_hit hlt HP.out]; exact HJ3.out), HK3, HS3⟩
      case measure => simp [intOf]; omega
     ·gi_wp2
      refine bodyPost_ret (results_none rfl _ _ _) rfl ?_
      exact ⟨⟨_, rfl⟩, .inr ⟨_, ⟨j + 1, by omega, (linksK_hit hlt HP.out).symm⟩, hJx3⟩⟩
    | false =>
     cases hp2 : (x.b == m) with
     | true =>
      have HP : Hid (part t 2 m j = true) := hU (by rw [part2 HX.out, hp, hp2]; rfl)
      gi_wp2
      refine hR.mono ?_
      rintro e W3 (⟨rfl, hJ3, hk3⟩ | ⟨rfl, hJx3⟩)
      ·have HJ3 := hU hJ3
       have HK3 := hU (HK2.out.trans hk3)
       have HS3 := hU (Nat.le_trans HS2.out hk3.1.size)
       clear hJ3 hk3 hR hy
       gi_wp2
       go_roundw
       case rel => exact ⟨j + 1, by omega, by simp, hU (by rw [linksK_hit hlt HP.out]; exact HJ3.out), HK3, HS3⟩
       case measure => simp [intOf]; omega
      ·gi_wp2
       refine bodyPost_ret (results_none rfl _ _ _) rfl ?_
       exact ⟨⟨_, rfl⟩, .inr ⟨_, ⟨j + 1, by omega, (linksK_hit hlt HP.out).symm⟩, hJx3⟩⟩
     | false =>
      have HP : Hid (part t 2 m j = false) := hU (by rw [part2 HX.out, hp, hp2]; rfl)
      clear hR hy
      gi_wp2
      refine ⟨fun _ h => (by cases h), ?_⟩
      gi_wp2
      go_roundw
      case rel => exact ⟨j + 1, by omega, by simp, hU (by rw [linksK_miss HP.out]; exact HJ2.out), HK2, HS2⟩
      case measure => simp [intOf]; omega
   ·cases hp : (x.g == m) with
    | true =>
     have HP : Hid (part t 3 m j = true) := hU (by rw [part3 HX.out]; exact hp)
     gi_wp2
     refine hR.mono ?_
     rintro e W3 (⟨rfl, hJ3, hk3⟩ | ⟨rfl, hJx3⟩)
     ·have HJ3 := hU hJ3
      have HK3 := hU (HK2.out.trans hk3)
      have HS3 := hU (Nat.le_trans HS2.out hk3.1.size)
      clear hJ3 hk3 hR hy
      gi_wp2
      go_roundw
      case rel => exact ⟨j + 1, by omega, by simp, hU (by rw [linksK_hit hlt HP.out]; exact HJ3.out), HK3, HS3⟩
      case measure => simp [intOf]; omega
     ·gi_wp2
      refine bodyPost_ret (results_none rfl _ _ _) rfl ?_
      exact ⟨⟨_, rfl⟩, .inr ⟨_, ⟨j + 1, by omega, (linksK_hit hlt HP.out).symm⟩, hJx3⟩⟩
    | false =>
     have HP : Hid (part t 3 m j = false) := hU (by rw [part3 HX.out]; exact hp)
     clear hR hy
     gi_wp2
     refine ⟨fun _ h => (by cases h), ?_⟩
     gi_wp2
     go_roundw
     case rel => exact ⟨j + 1, by omega, by simp, hU (by rw [linksK_miss HP.out]; exact HJ2.out), HK2, HS2⟩
     case measure => simp [intOf]; omega
  ·obtain rfl : j = t.ls.length := by omega
   gi_wp2
   go_end0
   exact ⟨⟨_, rfl⟩, .inl ⟨_, rfl, HJs.out⟩⟩
end
section
open Go.RowKit Go.Shelf
attribute [local go_sem] Oper.semAt_some
set_option maxRecDepth 100000 in
set_option maxHeartbeats 2000000 in
/-- No link: no round. -/
theorem links1_nil_in (F : Fence) (n : Nat) (h47 : F.fn 111) (hro : F.round = none) (l Bt Bc c2 : Nat) (A2 : Option Addr) {N : Nat} (J : List (Lk N) → World → Prop) (W : World) (hBt : W.cell? ⟨Bt, 2, none⟩ = some (.slice A2 0 c2)) (h0 : J [] W) :
    CallsIn F n Tryz.prog 111 #[.func (.yield l) #[] #[], .pointer (some ⟨Bt, 0, none⟩), .pointer (some ⟨Bc, 0, none⟩)] W fun e W' => (∃ v, e = .returned v) ∧ J [] W' := by
 refine callsIn_of_wp Tryz.func111 rfl h47 ?_ hro
 simp only [Tryz.ntmps111, List.size_toArray, List.length_cons, List.length_nil, Nat.reduceAdd, Nat.reduceSub, Array.replicate_succ, Array.replicate_zero, List.push_toArray, List.append_toArray, List.nil_append, List.cons_append]
 gi_wp2
 gi_loopw [10] (fun i wr => i = .int .i64 0 ∧ J [] wr) (fun _ _ => 0)
 case atStart => exact ⟨rfl, h0⟩
 case round =>
  obtain ⟨rfl, hJs⟩ := hrel
  gi_wp2
  go_end0
  exact ⟨⟨_, rfl⟩, hJs⟩
/-- The iterator's contract: all links of the component, or a part of them where a round has said 'no more'. -/
theorem links_stops (F : Fence) (n : Nat) (h47 : F.fn 111) (hro : F.round = none) (hn : 1 ≤ n) (Bt Bc n₀ : Nat) (t : Topo) (A2 : Option Addr) (c2 : Nat) (k m : Int) (hk : k = 1 ∨ k = 2 ∨ k = 3) (hlen : t.ls.length ≤ 100000)
    (w0 w : World) (h0 : n₀ = w0.heap.size) (hA : RdL w0 A2 t.ls) (hb : Below n₀ w0 w) (hBt : Bt < w.heap.size) (hBc : Bc < w.heap.size)
    (hcT : w.cell? ⟨Bt, 2, none⟩ = some (.slice A2 t.ls.length c2)) (hc0 : w.cell? ⟨Bc, 0, none⟩ = some (.int .i64 k)) (hc1 : w.cell? ⟨Bc, 1, none⟩ = some (.int .i64 m)) :
    SeqStopsK F n Tryz.prog 111 #[.pointer (some ⟨Bt, 0, none⟩), .pointer (some ⟨Bc, 0, none⟩)] (fun x : Lk t.ls.length => #[Value.int .i64 x.1]) (Kq n₀ Bc) (fun ys => ys = linksK t k m t.ls.length) (fun pre => ∃ j, j ≤ t.ls.length ∧ pre = linksK t k m j) t.ls.length w := fun l J Jx W hW hJ _ hY hJ0 => by
 subst h0
 have g0 := (hW.cell (p := ⟨Bt, 2, none⟩) hBt).trans hcT
 have g1 := (hW.cell (p := ⟨Bc, 0, none⟩) hBc).trans hc0
 have g2 := (hW.cell (p := ⟨Bc, 1, none⟩) hBc).trans hc1
 have hbW : Below w0.heap.size w0 W := hb.trans (hW.mono hb.size)
 rcases hA with hnil | ⟨b, o, rfl, hcell⟩
 ·have hl0 : t.ls.length = 0 := by rw [hnil]; rfl
  rw [hl0] at g0
  refine (links1_nil_in F n h47 hro l Bt Bc c2 A2 J W g0 hJ0).mono fun e W' ⟨he, hj⟩ => ⟨he, .inl ⟨_, ?_, hj⟩⟩
  exact (List.eq_nil_of_length_eq_zero (by have := linksK_le t k m t.ls.length; omega)).symm
 ·by_cases hl0 : t.ls.length = 0
  ·rw [hl0] at g0
   refine (links1_nil_in F n h47 hro l Bt Bc c2 _ J W g0 hJ0).mono fun e W' ⟨he, hj⟩ => ⟨he, .inl ⟨_, ?_, hj⟩⟩
   exact (List.eq_nil_of_length_eq_zero (by have := linksK_le t k m t.ls.length; omega)).symm
  ·have hx : t.ls[0]? = some (t.ls[0]'(by omega)) := List.getElem?_eq_getElem (by omega)
   have hbb : b < w0.heap.size := block_lt_of_cell (hcell 0 _ hx).q0
   exact links1_in F n h47 hro hn l Bt Bc w0.heap.size t b o c2 k m hk hlen hbb J Jx W hJ (Nat.lt_of_lt_of_le hBc hW.size) hbW.size hY g0 g1 g2 (fun j x hj => (hcell j x hj).up hbW) hJ0
/-- links(t, c): the parameters are boxed; the function value captures the boxes. -/
theorem links_in (F : Fence) (n : Nat) (h35 : F.fn 89) (hro : F.round = none) (x y z : Value) (k m : Int) (w : World) :
    CallsIn F n Tryz.prog 89 #[.agg #[x, y, z], .agg #[.int .i64 k, .int .i64 m]] w fun e w' => e = .returned (.func (.func 111) #[] #[.pointer (some ⟨w.heap.size, 0, none⟩), .pointer (some ⟨w.heap.size + 1, 0, none⟩)]) ∧ w' = (w.alloc (.cells #[x, y, z] 25)).alloc (.cells #[.int .i64 k, .int .i64 m] 79) := by
 refine callsIn_of_wp Tryz.func89 rfl h35 ?_ hro
 simp only [Tryz.ntmps89, List.size_toArray, List.length_cons, List.length_nil, Nat.reduceAdd, Nat.reduceSub, Array.replicate_succ, Array.replicate_zero, List.push_toArray, List.append_toArray, List.nil_append, List.cons_append]
 gi_wp2
 go_ret
 exact ⟨rfl, rfl⟩
theorem compV_kind {t : Topo} {k m : Int} (h : gZ t k m = true) : k = 1 ∨ k = 2 ∨ k = 3 := by
 simp only [gZ, Bool.and_eq_true] at h
 have h2 := h.2
 unfold compOk at h2
 by_cases h1 : k = 1
 ·exact .inl h1
 ·by_cases h3 : k = 2
  ·exact .inr (.inl h3)
  ·by_cases h4 : k = 3
   ·exact .inr (.inr h4)
   ·simp [h1, h3, h4] at h2
theorem compV_valid {t : Topo} {k m : Int} (h : gZ t k m = true) : valid t = true := by
 simp only [gZ, Bool.and_eq_true] at h
 exact h.1
theorem Kq_b {n₀ Bc : Nat} {w : World} (h1 : n₀ ≤ w.heap.size) (h2 : Bc < w.heap.size) (W : World) (l : Nat) (o o' : Obj) (hl : w.heap.size ≤ l) (h : W.heap[l]? = some o) (g1 : o.isCells = false) (g2 : o.isWalk = false) : Kq n₀ Bc W (W.putObj l o') :=
 ⟨belowK_b h1 W l o o' hl h g1 g2, World.putObj_heap_other (by omega)⟩
end
section
open Go.RowKit Go.Sort
/-- The cells of a slice of pairs. -/
def RdP (w : World) (A : Option Addr) (l : List (Int × Int)) : Prop :=
 l = [] ∨ ∃ b o, A = some ⟨b, o, none⟩ ∧ ∀ (k : Nat) (p : Int × Int), l[k]? = some p → w.cell? ⟨b, o + k * 2, none⟩ = some (.int .i64 p.1) ∧ w.cell? ⟨b, o + k * 2 + 1, none⟩ = some (.int .i64 p.2)
theorem RdP.below {w w' : World} {A : Option Addr} {l : List (Int × Int)} (h : RdP w A l) (hb : Below w.heap.size w w') : RdP w' A l := by
 rcases h with rfl | ⟨b, o, rfl, hc⟩
 ·exact .inl rfl
 ·exact .inr ⟨b, o, rfl, fun k p hp => ⟨aQ hb (hc k p hp).1, aQ hb (hc k p hp).2⟩⟩
theorem RdP.at_ {w : World} {A : Option Addr} {l : List (Int × Int)} {k : Nat} (h : RdP w A l) (hk : k < l.length) : ∃ b o p, A = some ⟨b, o, none⟩ ∧ l.drop k = p :: l.drop (k + 1) ∧ w.cell? ⟨b, o + k * 2, none⟩ = some (.int .i64 p.1) ∧ w.cell? ⟨b, o + k * 2 + 1, none⟩ = some (.int .i64 p.2) := by
 rcases h with rfl | ⟨b, o, rfl, hc⟩
 ·simp at hk
 ·exact ⟨b, o, l[k], rfl, List.drop_eq_getElem_cons hk, (hc k _ (List.getElem?_eq_getElem hk)).1, (hc k _ (List.getElem?_eq_getElem hk)).2⟩
theorem kZ {w : World} {k : Nat} {o : Obj} (h : w.heap[k]? = some o) : k < w.heap.size := (Array.getElem?_eq_some_iff.1 h).1
theorem compV1 {t : Topo} {m : Int} (hv : valid t = true) : gZ t 1 m = (decide (0 ≤ m) && decide (m < (t.ls.length : Int))) := by simp [gZ, hv, compOk1]
theorem compV2 {t : Topo} {m : Int} (hv : valid t = true) : gZ t 2 m = (decide (0 ≤ m) && decide (m < t.n)) := by simp [gZ, hv, compOk2, isN]
theorem compV3 {t : Topo} {m : Int} (hv : valid t = true) : gZ t 3 m = (decide (1 ≤ m) && decide (m ≤ 64)) := by simp [gZ, hv, compOk3]
/-- Is an arc one of a component? -/
def partA (t : Topo) (k m a : Int) : Bool := part t k m (a / 2)
theorem partA1 {t : Topo} {m a : Int} : partA t 1 m a = (a / 2 == m) := rfl
theorem partA2 {t : Topo} {m a : Int} : partA t 2 m a = ((lnk t a).a == m || (lnk t a).b == m) := rfl
theorem partA3 {t : Topo} {k m a : Int} (h1 : (k == 1) = false) (h2 : (k == 2) = false) : partA t k m a = ((lnk t a).g == m) := by
 simp only [beq_eq_false_iff_ne] at h1 h2
 simp [partA, part, h1, h2, lnk]
end
end Go.Proofs.YtdnjflpmbnjgeaaGreat
