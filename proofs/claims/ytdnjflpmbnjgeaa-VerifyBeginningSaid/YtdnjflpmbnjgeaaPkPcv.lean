/-
  postconv.find, Reaches, Safe.
  component.links: what its iterator yields: the numbers of the links of a component, in increasing order.
-/
import Derived.Test.YtdnjflpmbnjgeaaSpfPa
import Derived.Test.YtdnjflpmbnjgeaaPkRtJ
import Derived.RangeFuncNested
import Derived.RangeFuncBound
import Derived.RangeFuncCalls
import Derived.RangeFuncLeaves
import Derived.RangeFuncBox
import Derived.Shelf.Abstract
import Derived.OwnWalkIn
import Derived.TacticsInMore
import Derived.LoopNIn
import Derived.LoopIn
namespace Go.Proofs.Ytdnjflpmbnjgeaa
set_option linter.unusedSimpArgs false
set_option linter.unusedVariables false
open Go.RowKit Go.Sort
/-- A call that returns whether something holds. -/
def RetBP (w : World) (p : Prop) (e : Ending) (w' : World) : Prop := ∃ b : Bool, e = .returned (.bool b) ∧ (b = true ↔ p) ∧ Below w.heap.size w w'
theorem RetBP.mk {w w' : World} {p : Prop} (b : Bool) {e : Ending} (he : e = .returned (.bool b)) (h : b = true ↔ p) (hb : Below w.heap.size w w') : RetBP w p e w' := ⟨b, he, h, hb⟩
section
variable {w : World} {A1 A2 D : Option Addr} {t : Topo} {dn : List Bool}
theorem pc_none (l : Value) : Calls Try.prog 55 #[l] w fun e w' => e = .returned (.tuple #[]) ∧ Below w.heap.size w w' := by
  have HB := Lib.hid (Below.refl w.heap.size w)
  go_enter Try.func55, Try.ntmps55
  go_wp2_with fail
  go_end0
  exact ⟨rfl, HB.out⟩
set_option maxRecDepth 100000 in
set_option maxHeartbeats 2000000 in
theorem pc_find (c1 c2 dc : Nat) (s d : Int) (hv : valid t = true) (hs : isN t.n s = true) (hd : isN t.n d = true) (hT : TAt w A1 A2 t) (hD : Rd w D (dn.map Value.bool)) (hdl : dn.length = 0 ∨ dn.length = 2 * t.ls.length) :
    Calls Try.prog 54 #[.agg #[.int .i64 t.n, .slice A1 t.ov.length c1, .slice A2 t.ls.length c2], .slice D dn.length dc, .int .i64 s, .int .i64 d, .func (.func 55) #[] #[]] w fun e w' => ∃ x : Int, e = .returned (.int .i64 x) ∧ (x = 0 ↔ reach t dn s d) ∧ Below w.heap.size w w' := by
  have hX := TBox.start c1 c2 hT
  obtain ⟨b0, b1, b2⟩ := hX.cells
  have HX := Lib.hid hX
  have HP := Lib.hid (spf_Path (w := w.alloc (.cells #[.int .i64 t.n, .slice A1 t.ov.length c1, .slice A2 t.ls.length c2] 25)) c1 c2 dc s d hv hs hd (hX.ta) (hD.below hX.hb) hdl)
  clear hX hT hv hs hd hD hdl
  go_enter Try.func54, Try.ntmps54
  go_upto_region 2 with (go_at_call 74; (with_reducible refine HP.out.mono ?_); rintro e w2 ⟨A, n, c, x, rfl, hx, hb⟩; have HRE := Lib.hid hx; have HB := Lib.hid (below_next HX.out.hb hb); clear hx hb b0 b1 b2 HP)
  by_cases h : x = 0
  · subst h
    go_wp2_with (go_at_call 55; (with_reducible refine (pc_none _).mono ?_); rintro e w3 ⟨rfl, hb⟩; replace HB := Lib.hid (below_next HB.out hb); clear hb)
    go_ret
    exact ⟨0, rfl, by simpa using HRE.out, HB.out⟩
  · have hb : (x == 0) = false := beq_eq_false_iff_ne.2 h
    have HH := Lib.hid h
    clear h
    go_wp2_with fail
    go_ret
    exact ⟨x, rfl, HRE.out, HB.out⟩
set_option maxRecDepth 100000 in
theorem pc_Reaches (c1 c2 dc : Nat) (s d : Int) (hv : valid t = true) (hs : isN t.n s = true) (hd : isN t.n d = true) (hT : TAt w A1 A2 t) (hD : Rd w D (dn.map Value.bool)) (hdl : dn.length = 0 ∨ dn.length = 2 * t.ls.length) :
    Calls Try.prog 35 #[.agg #[.int .i64 t.n, .slice A1 t.ov.length c1, .slice A2 t.ls.length c2], .slice D dn.length dc, .int .i64 s, .int .i64 d] w (RetBP w (reach t dn s d)) := by
  have hX := TBox.start c1 c2 hT
  obtain ⟨b0, b1, b2⟩ := hX.cells
  have HX := Lib.hid hX
  have HP := Lib.hid (pc_find (w := w.alloc (.cells #[.int .i64 t.n, .slice A1 t.ov.length c1, .slice A2 t.ls.length c2] 25)) c1 c2 dc s d hv hs hd (hX.ta) (hD.below hX.hb) hdl)
  clear hX hT hv hs hd hD hdl
  go_enter Try.func35, Try.ntmps35
  go_wp2_with (go_at_call 54; (with_reducible refine HP.out.mono ?_); rintro e w2 ⟨x, rfl, hx, hb⟩; have HRE := Lib.hid hx; have HB := Lib.hid (below_next HX.out.hb hb); clear hx hb b0 b1 b2 HP)
  go_ret
  exact .mk (x == 0) rfl (by rw [beq_iff_eq]; exact HRE.out) HB.out
theorem spf_Dist0 (c1 c2 : Nat) (d : Int) (hv : valid t = true) (hd : isN t.n d = true) (hT : TAt w A1 A2 t) :
    Calls Try.prog 53 #[.agg #[.int .i64 t.n, .slice A1 t.ov.length c1, .slice A2 t.ls.length c2], .slice none 0 0, .int .i64 d] w fun e w' => ∃ (A : Option Addr) (c : Nat) (dist : List Int), e = .returned (.tuple #[.slice A dist.length c, .int .i64 0]) ∧ Rd w' A (dist.map (Value.int .i64)) ∧ SR (sgDist t [] d) dist ∧ Below w.heap.size w w' :=
  spf_Dist (dn := []) (D := none) c1 c2 0 d hv hd hT (.inl rfl) (.inl rfl)
/-- Every node but one that reached a destination still does. -/
def safeP (t : Topo) (dn : List Bool) (gone d : Int) : Prop := ∀ n, 0 ≤ n → n < t.n → n ≠ gone → reach t [] n d → reach t dn n d
set_option maxRecDepth 100000 in
set_option maxHeartbeats 4000000 in
theorem pc_Safe (c1 c2 dc : Nat) (gone d : Int) (hv : valid t = true) (hd : isN t.n d = true) (hT : TAt w A1 A2 t) (hD : Rd w D (dn.map Value.bool)) (hdl : dn.length = 0 ∨ dn.length = 2 * t.ls.length) :
    Calls Try.prog 34 #[.agg #[.int .i64 t.n, .slice A1 t.ov.length c1, .slice A2 t.ls.length c2], .slice D dn.length dc, .int .i64 gone, .int .i64 d] w (RetBP w (safeP t dn gone d)) := by
  have hL := valid_ls hv
  have hN := valid_n hv
  have hX := TBox.start c1 c2 hT
  obtain ⟨b0, b1, b2⟩ := hX.cells
  have HX := Lib.hid hX
  have HV := Lib.hid hv
  have HD := Lib.hid hD
  have HDL := Lib.hid hdl
  have HDD := Lib.hid hd
  have HN := Lib.hid hN
  have hfit : (decide (dn.length = 0) || decide (dn.length = 2 * t.ls.length)) = true := by rcases hdl with h | h <;> simp [h]
  have HF := Lib.hid hfit
  clear hX hT hv hd hD hdl hN hfit
  go_enter Try.func34, Try.ntmps34
  go_upto_region 5 with (first | (go_at_call 24; (with_reducible refine (topology_Valid t _ _ _ _ _ HX.out.ta.ls).mono ?_); rw [HV.out]; rintro e w2 ⟨rfl, hb⟩; replace HX := Lib.hid (HX.out.up hb); clear hb b0 b1 b2; obtain ⟨b0, b1, b2⟩ := HX.out.cells) | (go_at_call 52; (with_reducible refine (graph_Fits t _ _ _ _ _ _ _ _ (by omega)).mono ?_); rw [HF.out]; rintro e w3 ⟨rfl, hb⟩; replace HX := Lib.hid (HX.out.up hb); clear hb b0 b1 b2; obtain ⟨b0, b1, b2⟩ := HX.out.cells) | (go_at_call 27; (with_reducible refine (graph_Node _ _ _ _ _).mono ?_); rw [HDD.out]; rintro e w4 ⟨rfl, hb⟩; replace HX := Lib.hid (HX.out.up hb); clear hb b0 b1 b2; obtain ⟨b0, b1, b2⟩ := HX.out.cells) | (go_at_call 53; (with_reducible refine (spf_Dist0 _ _ d HV.out HDD.out HX.out.ta).mono ?_); rintro e w5 ⟨A0, c0, dist0, rfl, hr, hsr, hb⟩; replace HX := Lib.hid (HX.out.up hb); have HR0 := Lib.hid hr; have HSR0 := Lib.hid hsr; clear hb hr hsr b0 b1 b2; obtain ⟨b0, b1, b2⟩ := HX.out.cells) | (go_at_call 53; (with_reducible refine (spf_Dist _ _ _ d HV.out HDD.out HX.out.ta (HD.out.below HX.out.hb) HDL.out).mono ?_); rintro e w6 ⟨A9, c9, dist9, rfl, hr, hsr, hb⟩; replace HX := Lib.hid (HX.out.up hb); replace HR0 := Lib.hid (HR0.out.below hb); have HR9 := Lib.hid hr; have HSR9 := Lib.hid hsr; clear hb hr hsr b0 b1 b2; obtain ⟨b0, b1, b2⟩ := HX.out.cells))
  obtain ⟨N, hNe⟩ : ∃ N : Nat, t.n = (N : Int) := ⟨t.n.toNat, by have := HN.out; omega⟩
  have HNE := Lib.hid hNe
  have HL0 := Lib.hid (show dist0.length = N by rw [HSR0.out.len]; show t.n.toNat = N; omega)
  have HL9 := Lib.hid (show dist9.length = N by rw [HSR9.out.len]; show t.n.toNat = N; omega)
  have HI0 := Lib.hid (fun (n : Int) (h0 : 0 ≤ n) (h1 : n < (N : Int)) => (HSR0.out.iff (sgDist_ok HV.out HDD.out) h0 (by show n < ((t.n.toNat : Nat) : Int); omega)).trans rchDist)
  have HI9 := Lib.hid (fun (n : Int) (h0 : 0 ≤ n) (h1 : n < (N : Int)) => (HSR9.out.iff (sgDist_ok HV.out HDD.out) h0 (by show n < ((t.n.toNat : Nat) : Int); omega)).trans rchDist)
  have hN64 : N ≤ 64 := by have := HN.out; omega
  have e0 := HL0.out
  have e9 := HL9.out
  rw [e0, e9]
  clear e0 e9
  rw [hNe] at b0
  clear hNe
  go_wp2_with fail
  go_loop [44] (fun i => ∃ k : Nat, k ≤ N ∧ i = .int .i64 k ∧ Hid (∀ n, 0 ≤ n → n < (k : Int) → n ≠ gone → reach t [] n d → reach t dn n d)) (fun i => N - (intOf i).toNat)
  case atStart => exact ⟨0, Nat.zero_le _, rfl, Lib.hid (fun n h0 h1 => by omega)⟩
  case round =>
    obtain ⟨k, hk, rfl, HK⟩ := hrel
    by_cases hlt : k < N
    · have hlt' : (k : Int) < (N : Int) := by omega
      obtain ⟨p0, o0, hA0, d0⟩ := dist_at HR0.out HL0.out (i := (k : Int)) (by omega) hlt'
      obtain ⟨p9, o9, hA9, d9⟩ := dist_at HR9.out HL9.out (i := (k : Int)) (by omega) hlt'
      rw [show ((k : Int)).toNat = k by omega] at d0 d9
      have i0 := HI0.out k (by omega) hlt'
      have i9 := HI9.out k (by omega) hlt'
      have HI0k := Lib.hid i0
      have HI9k := Lib.hid i9
      clear i0 i9
      subst hA0 hA9
      have good : ((k : Int) ≠ gone → reach t [] k d → reach t dn k d) → Hid (∀ n, 0 ≤ n → n < ((k + 1 : Nat) : Int) → n ≠ gone → reach t [] n d → reach t dn n d) := fun h => Lib.hid (fun n h0 h1 h2 => by
        by_cases e : n = (k : Int)
        · subst e; exact h h2
        · exact HK.out n h0 (by omega) h2)
      have HGO := Lib.hid good
      clear good
      by_cases hg : (k : Int) = gone
      · have HG := Lib.hid hg
        have hgb : ((k : Int) != gone) = false := by simp [hg]
        clear hg
        go_wp2_with fail
        go_round
        case rel => exact ⟨k + 1, by omega, by go_num, HGO.out (fun h => absurd HG.out h)⟩
        case measure => simp [intOf]; omega
      · have hgb : ((k : Int) != gone) = true := bne_iff_ne.2 hg
        have HG := Lib.hid hg
        clear hg
        by_cases h0 : 0 ≤ dD dist0 k
        · by_cases h9 : dD dist9 k < 0
          · have HNO : Hid (¬ safeP t dn gone d) := Lib.hid (fun h => by
              have h1 := h k (by omega) (by have := HNE.out; omega) HG.out (HI0k.out.1 h0)
              have := HI9k.out.2 h1
              omega)
            go_wp2_with fail
            go_ret
            exact .mk false rfl ⟨fun h => (by cases h), fun h => absurd h HNO.out⟩ HX.out.hb
          · have HYES := Lib.hid (HI9k.out.1 (by omega))
            go_wp2_with fail
            go_round
            case rel => exact ⟨k + 1, by omega, by go_num, HGO.out (fun _ _ => HYES.out)⟩
            case measure => simp [intOf]; omega
        · have HNR : Hid (¬ reach t [] k d) := Lib.hid (fun h => h0 (HI0k.out.2 h))
          go_wp2_with fail
          go_round
          case rel => exact ⟨k + 1, by omega, by go_num, HGO.out (fun _ h => absurd h HNR.out)⟩
          case measure => simp [intOf]; omega
    · obtain rfl : k = N := by omega
      have HYES : Hid (safeP t dn gone d) := Lib.hid (fun n h0 h1 => HK.out n h0 (by have := HNE.out; omega))
      go_wp2_with fail
      go_ret
      exact .mk true rfl ⟨fun _ => HYES.out, fun _ => rfl⟩ HX.out.hb
end
end Go.Proofs.Ytdnjflpmbnjgeaa
namespace Go.Proofs.Ytdnjflpmbnjgeaa
open Go.RowKit Go.Shelf
attribute [local go_sem] Oper.semAt_some
/-- Is a link one of a component? -/
def part (t : Topo) (k m : Int) (i : Int) : Bool :=
  let l := t.ls.getD i.toNat default
  if k = 1 then i == m else if k = 2 then l.a == m || l.b == m else l.g == m
def linksL (t : Topo) (k m : Int) (n : Nat) : List Int := ups (part t k m) n
theorem part2 {t : Topo} {m : Int} {i : Nat} {l : Lnk} (h : t.ls[i]? = some l) : part t 2 m i = (l.a == m || l.b == m) := by simp [part, h]
theorem part3 {t : Topo} {m : Int} {i : Nat} {l : Lnk} (h : t.ls[i]? = some l) : part t 3 m i = (l.g == m) := by simp [part, h]
/-- The number of a link. -/
def Lk (n : Nat) : Type := { x : Int // 0 ≤ x ∧ x < (n : Int) }
def mkL {n j : Nat} (h : j < n) : Lk n := ⟨(j : Int), by omega, by omega⟩
theorem mkL_val {n j : Nat} (h : j < n) : (mkL h).1 = (j : Int) := rfl
def linksK (t : Topo) (k m : Int) : Nat → List (Lk t.ls.length)
  | 0 => []
  | j + 1 => if h : j < t.ls.length then (if part t k m j = true then linksK t k m j ++ [mkL h] else linksK t k m j) else linksK t k m j
theorem linksK_le (t : Topo) (k m : Int) : ∀ j, (linksK t k m j).length ≤ j
  | 0 => Nat.le_refl _
  | j + 1 => by
    have := linksK_le t k m j
    unfold linksK
    split
    · split
      · simp; omega
      · omega
    · omega
theorem linksK_hit {t : Topo} {k m : Int} {j : Nat} (hj : j < t.ls.length) (h : part t k m j = true) : linksK t k m (j + 1) = linksK t k m j ++ [mkL hj] := by simp [linksK, h, hj]
theorem linksK_miss {t : Topo} {k m : Int} {j : Nat} (h : part t k m j = false) : linksK t k m (j + 1) = linksK t k m j := by simp [linksK, h]
theorem linksK_val (t : Topo) (k m : Int) : ∀ j, j ≤ t.ls.length → (linksK t k m j).map (·.1) = linksL t k m j
  | 0, _ => rfl
  | j + 1, h => by
    have ih := linksK_val t k m j (by omega)
    have hj : j < t.ls.length := by omega
    by_cases hp : part t k m j = true
    · rw [linksK_hit hj hp, List.map_append, ih]
      simp [linksL, ups, hp, mkL_val]
    · simp only [Bool.not_eq_true] at hp
      rw [linksK_miss hp, ih]
      simp [linksL, ups, hp]
/-- What a round of the loop keeps: all that lay below n₀, and the block of the component. -/
def Kq (n₀ Bc : Nat) (W W' : World) : Prop := Below n₀ W W' ∧ W'.heap[Bc]? = W.heap[Bc]?
theorem Kq.trans {n₀ Bc : Nat} {A B C : World} (h : Kq n₀ Bc A B) (g : Kq n₀ Bc B C) : Kq n₀ Bc A C := ⟨h.1.trans g.1, g.2.trans h.2⟩
theorem Kq.cell {n₀ Bc o : Nat} {W W' : World} (h : Kq n₀ Bc W W') : W'.cell? ⟨Bc, o, none⟩ = W.cell? ⟨Bc, o, none⟩ := World.cell?_of_block (w := W) h.2
theorem Kq.alloc {n₀ Bc : Nat} (W : World) (o : Obj) (h1 : n₀ ≤ W.heap.size) (h2 : Bc < W.heap.size) : Kq n₀ Bc W (W.alloc o) := ⟨(Below.refl _ W).alloc h1 o, Below.heap_alloc W o Bc h2⟩
set_option maxRecDepth 100000 in
set_option maxHeartbeats 4000000 in
theorem links1_in (F : Fence) (n : Nat) (h47 : F.fn 75) (hro : F.round = none) (hn : 1 ≤ n) (l Bt Bc n₀ : Nat) (t : Topo) (b o c2 : Nat) (k m : Int) (hk : k = 1 ∨ k = 2 ∨ k = 3) (hlen : t.ls.length ≤ 100000) (hb : b < n₀) (J Jx : List (Lk t.ls.length) → World → Prop)
    (W : World) (hJ : AbidesFrom W.heap.size J) (hBcW : Bc < W.heap.size) (hn₀ : n₀ ≤ W.heap.size)
    (hY : ∀ pre x W, J pre W → pre.length < t.ls.length → YieldAt F (n - 1) Try.prog l #[.int .i64 x.1] W fun e W' =>
      (e = .returned (.bool true) ∧ J (pre ++ [x]) W' ∧ Kq n₀ Bc W W') ∨ (e = .returned (.bool false) ∧ Jx (pre ++ [x]) W'))
    (hBt : W.cell? ⟨Bt, 2, none⟩ = some (.slice (some ⟨b, o, none⟩) t.ls.length c2)) (hB0 : W.cell? ⟨Bc, 0, none⟩ = some (.int .i64 k)) (hB1 : W.cell? ⟨Bc, 1, none⟩ = some (.int .i64 m))
    (hc : ∀ (j : Nat) (x : Lnk), t.ls[j]? = some x → LAt W b (o + j * 7) x) (h0 : J [] W) :
    CallsIn F n Try.prog 75 #[.func (.yield l) #[] #[], .pointer (some ⟨Bt, 0, none⟩), .pointer (some ⟨Bc, 0, none⟩)] W fun e W' => (∃ v, e = .returned v) ∧
      ((∃ ys, ys = linksK t k m t.ls.length ∧ J ys W') ∨ (∃ pre, (∃ j, j ≤ t.ls.length ∧ pre = linksK t k m j) ∧ Jx pre W')) := by
  refine callsIn_of_wp Try.func75 rfl h47 ?_ hro
  simp only [Try.ntmps75, List.size_toArray, List.length_cons, List.length_nil, Nat.reduceAdd, Nat.reduceSub, Array.replicate_succ, Array.replicate_zero, List.push_toArray, List.append_toArray, List.nil_append, List.cons_append]
  have HJ := Lib.hid hJ
  have HC := Lib.hid hc
  have HY := Lib.hid hY
  have H0 := Lib.hid h0
  clear hJ hc hY h0
  gi_wp2
  gi_loopw [10] (fun i wr => ∃ j : Nat, j ≤ t.ls.length ∧ i = .int .i64 j ∧ Hid (J (linksK t k m j) wr) ∧ Hid (Kq n₀ Bc W wr) ∧ Hid (W.heap.size ≤ wr.heap.size)) (fun i _ => t.ls.length - (intOf i).toNat)
  case atStart => exact ⟨0, Nat.zero_le _, rfl, H0, Lib.hid ⟨Below.refl _ _, rfl⟩, Lib.hid (Nat.le_refl _)⟩
  case round =>
    obtain ⟨j, hj, rfl, HJs, HK, HS⟩ := hrel
    by_cases hlt : j < t.ls.length
    · obtain ⟨x, hx⟩ : ∃ x, t.ls[j]? = some x := ⟨_, List.getElem?_eq_getElem hlt⟩
      have hL := HC.out j x hx
      have hbel := HK.out.1
      have q0 := (hbel.cell (p := ⟨b, o + j * 7, none⟩) hb).trans hL.q0
      have q1 := (hbel.cell (p := ⟨b, o + j * 7 + 1, none⟩) hb).trans hL.q1
      have q2 := (hbel.cell (p := ⟨b, o + j * 7 + 2, none⟩) hb).trans hL.q2
      have q3 := (hbel.cell (p := ⟨b, o + j * 7 + 3, none⟩) hb).trans hL.q3
      have q4 := (hbel.cell (p := ⟨b, o + j * 7 + 4, none⟩) hb).trans hL.q4
      have q5 := (hbel.cell (p := ⟨b, o + j * 7 + 5, none⟩) hb).trans hL.q5
      have q6 := (hbel.cell (p := ⟨b, o + j * 7 + 6, none⟩) hb).trans hL.q6
      have d0 := (HK.out.cell (o := 0)).trans hB0
      have d1 := (HK.out.cell (o := 1)).trans hB1
      have hBcr : Bc < wr.heap.size := Nat.lt_of_lt_of_le hBcW HS.out
      have hne : wr.heap.size ≠ Bc := by omega
      have hne2 : Bc ≠ wr.heap.size := by omega
      have HX := Lib.hid hx
      have HJ2 : Hid (J (linksK t k m j) (wr.alloc (.cells #[.int .i64 x.a, .int .i64 x.b, .int .i64 x.c0, .int .i64 x.c1, .int .i64 x.cap, .int .i64 x.dl, .int .i64 x.g] 47))) := Lib.hid (HJ.out _ _ _ none HJs.out (World.grownBy_alloc wr _ none) (by simp))
      have HK2 : Hid (Kq n₀ Bc W (wr.alloc (.cells #[.int .i64 x.a, .int .i64 x.b, .int .i64 x.c0, .int .i64 x.c1, .int .i64 x.cap, .int .i64 x.dl, .int .i64 x.g] 47))) := Lib.hid (HK.out.trans (Kq.alloc wr _ (Nat.le_trans hn₀ HS.out) hBcr))
      have HS2 : Hid (W.heap.size ≤ ((wr.alloc (.cells #[.int .i64 x.a, .int .i64 x.b, .int .i64 x.c0, .int .i64 x.c1, .int .i64 x.cap, .int .i64 x.dl, .int .i64 x.g] 47))).heap.size) := Lib.hid (by have := HS.out; simp; omega)
      obtain ⟨fn, tmps, assign, body, hy, hR⟩ := HY.out _ (mkL hlt) _ HJ2.out (Nat.lt_of_le_of_lt (linksK_le _ _ _ _) hlt)
      rw [mkL_val] at hy
      have hlt' : (j : Int) < (t.ls.length : Int) := by omega
      clear hx hL hbel HK HJs HS
      rcases hk with rfl | rfl | rfl
      · cases hp : ((j : Int) == m) with
        | true =>
          have HP : Hid (part t 1 m j = true) := Lib.hid hp
          gi_wp2
          refine hR.mono ?_
          rintro e W3 (⟨rfl, hJ3, hk3⟩ | ⟨rfl, hJx3⟩)
          · have HJ3 := Lib.hid hJ3
            have HK3 := Lib.hid (HK2.out.trans hk3)
            have HS3 := Lib.hid (Nat.le_trans HS2.out hk3.1.size)
            clear hJ3 hk3 hR hy
            gi_wp2
            go_roundw
            case rel => exact ⟨j + 1, by omega, by simp, Lib.hid (by rw [linksK_hit hlt HP.out]; exact HJ3.out), HK3, HS3⟩
            case measure => simp [intOf]; omega
          · gi_wp2
            refine bodyPost_ret (results_none rfl _ _ _) rfl ?_
            exact ⟨⟨_, rfl⟩, .inr ⟨_, ⟨j + 1, by omega, (linksK_hit hlt HP.out).symm⟩, hJx3⟩⟩
        | false =>
          have HP : Hid (part t 1 m j = false) := Lib.hid hp
          clear hR hy
          gi_wp2
          refine ⟨fun _ h => (by cases h), ?_⟩
          gi_wp2
          go_roundw
          case rel => exact ⟨j + 1, by omega, by simp, Lib.hid (by rw [linksK_miss HP.out]; exact HJ2.out), HK2, HS2⟩
          case measure => simp [intOf]; omega
      · cases hp : (x.a == m) with
        | true =>
          have HP : Hid (part t 2 m j = true) := Lib.hid (by rw [part2 HX.out, hp]; rfl)
          gi_wp2
          refine hR.mono ?_
          rintro e W3 (⟨rfl, hJ3, hk3⟩ | ⟨rfl, hJx3⟩)
          · have HJ3 := Lib.hid hJ3
            have HK3 := Lib.hid (HK2.out.trans hk3)
            have HS3 := Lib.hid (Nat.le_trans HS2.out hk3.1.size)
            clear hJ3 hk3 hR hy
            gi_wp2
            go_roundw
            case rel => exact ⟨j + 1, by omega, by simp, Lib.hid (by rw [linksK_hit hlt HP.out]; exact HJ3.out), HK3, HS3⟩
            case measure => simp [intOf]; omega
          · gi_wp2
            refine bodyPost_ret (results_none rfl _ _ _) rfl ?_
            exact ⟨⟨_, rfl⟩, .inr ⟨_, ⟨j + 1, by omega, (linksK_hit hlt HP.out).symm⟩, hJx3⟩⟩
        | false =>
          cases hp2 : (x.b == m) with
          | true =>
            have HP : Hid (part t 2 m j = true) := Lib.hid (by rw [part2 HX.out, hp, hp2]; rfl)
            gi_wp2
            refine hR.mono ?_
            rintro e W3 (⟨rfl, hJ3, hk3⟩ | ⟨rfl, hJx3⟩)
            · have HJ3 := Lib.hid hJ3
              have HK3 := Lib.hid (HK2.out.trans hk3)
              have HS3 := Lib.hid (Nat.le_trans HS2.out hk3.1.size)
              clear hJ3 hk3 hR hy
              gi_wp2
              go_roundw
              case rel => exact ⟨j + 1, by omega, by simp, Lib.hid (by rw [linksK_hit hlt HP.out]; exact HJ3.out), HK3, HS3⟩
              case measure => simp [intOf]; omega
            · gi_wp2
              refine bodyPost_ret (results_none rfl _ _ _) rfl ?_
              exact ⟨⟨_, rfl⟩, .inr ⟨_, ⟨j + 1, by omega, (linksK_hit hlt HP.out).symm⟩, hJx3⟩⟩
          | false =>
            have HP : Hid (part t 2 m j = false) := Lib.hid (by rw [part2 HX.out, hp, hp2]; rfl)
            clear hR hy
            gi_wp2
            refine ⟨fun _ h => (by cases h), ?_⟩
            gi_wp2
            go_roundw
            case rel => exact ⟨j + 1, by omega, by simp, Lib.hid (by rw [linksK_miss HP.out]; exact HJ2.out), HK2, HS2⟩
            case measure => simp [intOf]; omega
      · cases hp : (x.g == m) with
        | true =>
          have HP : Hid (part t 3 m j = true) := Lib.hid (by rw [part3 HX.out]; exact hp)
          gi_wp2
          refine hR.mono ?_
          rintro e W3 (⟨rfl, hJ3, hk3⟩ | ⟨rfl, hJx3⟩)
          · have HJ3 := Lib.hid hJ3
            have HK3 := Lib.hid (HK2.out.trans hk3)
            have HS3 := Lib.hid (Nat.le_trans HS2.out hk3.1.size)
            clear hJ3 hk3 hR hy
            gi_wp2
            go_roundw
            case rel => exact ⟨j + 1, by omega, by simp, Lib.hid (by rw [linksK_hit hlt HP.out]; exact HJ3.out), HK3, HS3⟩
            case measure => simp [intOf]; omega
          · gi_wp2
            refine bodyPost_ret (results_none rfl _ _ _) rfl ?_
            exact ⟨⟨_, rfl⟩, .inr ⟨_, ⟨j + 1, by omega, (linksK_hit hlt HP.out).symm⟩, hJx3⟩⟩
        | false =>
          have HP : Hid (part t 3 m j = false) := Lib.hid (by rw [part3 HX.out]; exact hp)
          clear hR hy
          gi_wp2
          refine ⟨fun _ h => (by cases h), ?_⟩
          gi_wp2
          go_roundw
          case rel => exact ⟨j + 1, by omega, by simp, Lib.hid (by rw [linksK_miss HP.out]; exact HJ2.out), HK2, HS2⟩
          case measure => simp [intOf]; omega
    · obtain rfl : j = t.ls.length := by omega
      gi_wp2
      go_end0
      exact ⟨⟨_, rfl⟩, .inl ⟨_, rfl, HJs.out⟩⟩
end Go.Proofs.Ytdnjflpmbnjgeaa
