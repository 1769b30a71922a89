/-
  component.links: what its iterator yields: the numbers of the links of a component, in increasing order.
-/
import Derived.Test.YtjcnjnonhncelaaDoorComp
import Derived.RangeFuncNested
import Derived.RangeFuncBound
import Derived.RangeFuncCalls
import Derived.RangeFuncLeaves
import Derived.RangeFuncBox
import Derived.Shelf.Abstract
import Derived.OwnWalkIn
import Derived.TacticsInMore
import Derived.LoopNIn
import Derived.LoopIn
namespace Go.Proofs.YtjcnjnonhncelaaDoor
open Go.RowKit Go.Shelf
attribute [local go_sem] Oper.semAt_some

/-- Is a link one of a component? -/
def part (t : Topo) (k m : Int) (i : Int) : Bool :=
  let l := t.ls.getD i.toNat default
  if k = 1 then i == m else if k = 2 then l.a == m || l.b == m else l.g == m
def linksL (t : Topo) (k m : Int) (n : Nat) : List Int := ups (part t k m) n
theorem part1 {t : Topo} {m : Int} {i : Nat} : part t 1 m i = ((i : Int) == m) := rfl
theorem part2 {t : Topo} {m : Int} {i : Nat} {l : Lnk} (h : t.ls[i]? = some l) : part t 2 m i = (l.a == m || l.b == m) := by simp [part, h]
theorem part3 {t : Topo} {m : Int} {i : Nat} {l : Lnk} (h : t.ls[i]? = some l) : part t 3 m i = (l.g == m) := by simp [part, h]

/-- The number of a link. -/
def Lk (n : Nat) : Type := { x : Int // 0 ≤ x ∧ x < (n : Int) }
def mkL {n j : Nat} (h : j < n) : Lk n := ⟨(j : Int), by omega, by omega⟩
theorem mkL_val {n j : Nat} (h : j < n) : (mkL h).1 = (j : Int) := rfl
def linksK (t : Topo) (k m : Int) : Nat → List (Lk t.ls.length)
  | 0 => []
  | j + 1 => if h : j < t.ls.length then (if part t k m j = true then linksK t k m j ++ [mkL h] else linksK t k m j) else linksK t k m j
theorem linksK_le (t : Topo) (k m : Int) : ∀ j, (linksK t k m j).length ≤ j
  | 0 => Nat.le_refl _
  | j + 1 => by
    have := linksK_le t k m j
    unfold linksK
    split
    · split
      · simp; omega
      · omega
    · omega
theorem linksK_hit {t : Topo} {k m : Int} {j : Nat} (hj : j < t.ls.length) (h : part t k m j = true) : linksK t k m (j + 1) = linksK t k m j ++ [mkL hj] := by simp [linksK, h, hj]
theorem linksK_miss {t : Topo} {k m : Int} {j : Nat} (h : part t k m j = false) : linksK t k m (j + 1) = linksK t k m j := by simp [linksK, h]
theorem linksK_val (t : Topo) (k m : Int) : ∀ j, j ≤ t.ls.length → (linksK t k m j).map (·.1) = linksL t k m j
  | 0, _ => rfl
  | j + 1, h => by
    have ih := linksK_val t k m j (by omega)
    have hj : j < t.ls.length := by omega
    by_cases hp : part t k m j = true
    · rw [linksK_hit hj hp, List.map_append, ih]
      simp [linksL, ups, hp, mkL_val]
    · simp only [Bool.not_eq_true] at hp
      rw [linksK_miss hp, ih]
      simp [linksL, ups, hp]

/-- What a round of the loop keeps: all that lay below n₀, and the block of the component. -/
def Kq (n₀ Bc : Nat) (W W' : World) : Prop := Below n₀ W W' ∧ W'.heap[Bc]? = W.heap[Bc]?
theorem Kq.trans {n₀ Bc : Nat} {A B C : World} (h : Kq n₀ Bc A B) (g : Kq n₀ Bc B C) : Kq n₀ Bc A C := ⟨h.1.trans g.1, g.2.trans h.2⟩
theorem Kq.cell {n₀ Bc o : Nat} {W W' : World} (h : Kq n₀ Bc W W') : W'.cell? ⟨Bc, o, none⟩ = W.cell? ⟨Bc, o, none⟩ := World.cell?_of_block (w := W) h.2

theorem Kq.alloc {n₀ Bc : Nat} (W : World) (o : Obj) (h1 : n₀ ≤ W.heap.size) (h2 : Bc < W.heap.size) : Kq n₀ Bc W (W.alloc o) := ⟨(Below.refl _ W).alloc h1 o, Below.heap_alloc W o Bc h2⟩

set_option maxRecDepth 100000 in
set_option maxHeartbeats 4000000 in
theorem links1_in (F : Fence) (n : Nat) (h47 : F.fn 145) (hro : F.round = none) (hn : 1 ≤ n) (l Bt Bc n₀ : Nat) (t : Topo) (b o c2 : Nat) (k m : Int) (hk : k = 1 ∨ k = 2 ∨ k = 3) (hlen : t.ls.length ≤ 100000) (hb : b < n₀) (J Jx : List (Lk t.ls.length) → World → Prop)
    (W : World) (hJ : AbidesFrom W.heap.size J) (hBcW : Bc < W.heap.size) (hn₀ : n₀ ≤ W.heap.size)
    (hY : ∀ pre x W, J pre W → pre.length < t.ls.length → YieldAt F (n - 1) Tryd.prog l #[.int .i64 x.1] W fun e W' =>
      (e = .returned (.bool true) ∧ J (pre ++ [x]) W' ∧ Kq n₀ Bc W W') ∨ (e = .returned (.bool false) ∧ Jx (pre ++ [x]) W'))
    (hBt : W.cell? ⟨Bt, 2, none⟩ = some (.slice (some ⟨b, o, none⟩) t.ls.length c2)) (hB0 : W.cell? ⟨Bc, 0, none⟩ = some (.int .i64 k)) (hB1 : W.cell? ⟨Bc, 1, none⟩ = some (.int .i64 m))
    (hc : ∀ (j : Nat) (x : Lnk), t.ls[j]? = some x → LAt W b (o + j * 7) x) (h0 : J [] W) :
    CallsIn F n Tryd.prog 145 #[.func (.yield l) #[] #[], .pointer (some ⟨Bt, 0, none⟩), .pointer (some ⟨Bc, 0, none⟩)] W fun e W' => (∃ v, e = .returned v) ∧
      ((∃ ys, ys = linksK t k m t.ls.length ∧ J ys W') ∨ (∃ pre, (∃ j, j ≤ t.ls.length ∧ pre = linksK t k m j) ∧ Jx pre W')) := by
  refine callsIn_of_wp Tryd.func145 rfl h47 ?_ hro
  simp only [Tryd.ntmps145, List.size_toArray, List.length_cons, List.length_nil, Nat.reduceAdd, Nat.reduceSub, Array.replicate_succ, Array.replicate_zero, List.push_toArray, List.append_toArray, List.nil_append, List.cons_append]
  have HJ := Lib.hid hJ
  have HC := Lib.hid hc
  have HY := Lib.hid hY
  have H0 := Lib.hid h0
  clear hJ hc hY h0
  gi_wp2
  gi_loopw [10] (fun i wr => ∃ j : Nat, j ≤ t.ls.length ∧ i = .int .i64 j ∧ Hid (J (linksK t k m j) wr) ∧ Hid (Kq n₀ Bc W wr) ∧ Hid (W.heap.size ≤ wr.heap.size)) (fun i _ => t.ls.length - (intOf i).toNat)
  case atStart => exact ⟨0, Nat.zero_le _, rfl, H0, Lib.hid ⟨Below.refl _ _, rfl⟩, Lib.hid (Nat.le_refl _)⟩
  case round =>
    obtain ⟨j, hj, rfl, HJs, HK, HS⟩ := hrel
    by_cases hlt : j < t.ls.length
    · obtain ⟨x, hx⟩ : ∃ x, t.ls[j]? = some x := ⟨_, List.getElem?_eq_getElem hlt⟩
      have hL := HC.out j x hx
      have hbel := HK.out.1
      have q0 := (hbel.cell (p := ⟨b, o + j * 7, none⟩) hb).trans hL.q0
      have q1 := (hbel.cell (p := ⟨b, o + j * 7 + 1, none⟩) hb).trans hL.q1
      have q2 := (hbel.cell (p := ⟨b, o + j * 7 + 2, none⟩) hb).trans hL.q2
      have q3 := (hbel.cell (p := ⟨b, o + j * 7 + 3, none⟩) hb).trans hL.q3
      have q4 := (hbel.cell (p := ⟨b, o + j * 7 + 4, none⟩) hb).trans hL.q4
      have q5 := (hbel.cell (p := ⟨b, o + j * 7 + 5, none⟩) hb).trans hL.q5
      have q6 := (hbel.cell (p := ⟨b, o + j * 7 + 6, none⟩) hb).trans hL.q6
      have d0 := (HK.out.cell (o := 0)).trans hB0
      have d1 := (HK.out.cell (o := 1)).trans hB1
      have hBcr : Bc < wr.heap.size := Nat.lt_of_lt_of_le hBcW HS.out
      have hne : wr.heap.size ≠ Bc := by omega
      have hne2 : Bc ≠ wr.heap.size := by omega
      have HX := Lib.hid hx
      have HJ2 : Hid (J (linksK t k m j) (wr.alloc (.cells #[.int .i64 x.a, .int .i64 x.b, .int .i64 x.c0, .int .i64 x.c1, .int .i64 x.cap, .int .i64 x.dl, .int .i64 x.g] 73))) := Lib.hid (HJ.out _ _ _ none HJs.out (World.grownBy_alloc wr _ none) (by simp))
      have HK2 : Hid (Kq n₀ Bc W (wr.alloc (.cells #[.int .i64 x.a, .int .i64 x.b, .int .i64 x.c0, .int .i64 x.c1, .int .i64 x.cap, .int .i64 x.dl, .int .i64 x.g] 73))) := Lib.hid (HK.out.trans (Kq.alloc wr _ (Nat.le_trans hn₀ HS.out) hBcr))
      have HS2 : Hid (W.heap.size ≤ ((wr.alloc (.cells #[.int .i64 x.a, .int .i64 x.b, .int .i64 x.c0, .int .i64 x.c1, .int .i64 x.cap, .int .i64 x.dl, .int .i64 x.g] 73))).heap.size) := Lib.hid (by have := HS.out; simp; omega)
      obtain ⟨fn, tmps, assign, body, hy, hR⟩ := HY.out _ (mkL hlt) _ HJ2.out (Nat.lt_of_le_of_lt (linksK_le _ _ _ _) hlt)
      rw [mkL_val] at hy
      have hlt' : (j : Int) < (t.ls.length : Int) := by omega
      clear hx hL hbel HK HJs HS
      rcases hk with rfl | rfl | rfl
      · cases hp : ((j : Int) == m) with
        | true =>
          have HP : Hid (part t 1 m j = true) := Lib.hid hp
          gi_wp2
          refine hR.mono ?_
          rintro e W3 (⟨rfl, hJ3, hk3⟩ | ⟨rfl, hJx3⟩)
          · have HJ3 := Lib.hid hJ3
            have HK3 := Lib.hid (HK2.out.trans hk3)
            have HS3 := Lib.hid (Nat.le_trans HS2.out hk3.1.size)
            clear hJ3 hk3 hR hy
            gi_wp2
            go_roundw
            case rel => exact ⟨j + 1, by omega, by simp, Lib.hid (by rw [linksK_hit hlt HP.out]; exact HJ3.out), HK3, HS3⟩
            case measure => simp [intOf]; omega
          · gi_wp2
            refine bodyPost_ret (results_none rfl _ _ _) rfl ?_
            exact ⟨⟨_, rfl⟩, .inr ⟨_, ⟨j + 1, by omega, (linksK_hit hlt HP.out).symm⟩, hJx3⟩⟩
        | false =>
          have HP : Hid (part t 1 m j = false) := Lib.hid hp
          clear hR hy
          gi_wp2
          refine ⟨fun _ h => (by cases h), ?_⟩
          gi_wp2
          go_roundw
          case rel => exact ⟨j + 1, by omega, by simp, Lib.hid (by rw [linksK_miss HP.out]; exact HJ2.out), HK2, HS2⟩
          case measure => simp [intOf]; omega
      · cases hp : (x.a == m) with
        | true =>
          have HP : Hid (part t 2 m j = true) := Lib.hid (by rw [part2 HX.out, hp]; rfl)
          gi_wp2
          refine hR.mono ?_
          rintro e W3 (⟨rfl, hJ3, hk3⟩ | ⟨rfl, hJx3⟩)
          · have HJ3 := Lib.hid hJ3
            have HK3 := Lib.hid (HK2.out.trans hk3)
            have HS3 := Lib.hid (Nat.le_trans HS2.out hk3.1.size)
            clear hJ3 hk3 hR hy
            gi_wp2
            go_roundw
            case rel => exact ⟨j + 1, by omega, by simp, Lib.hid (by rw [linksK_hit hlt HP.out]; exact HJ3.out), HK3, HS3⟩
            case measure => simp [intOf]; omega
          · gi_wp2
            refine bodyPost_ret (results_none rfl _ _ _) rfl ?_
            exact ⟨⟨_, rfl⟩, .inr ⟨_, ⟨j + 1, by omega, (linksK_hit hlt HP.out).symm⟩, hJx3⟩⟩
        | false =>
          cases hp2 : (x.b == m) with
          | true =>
            have HP : Hid (part t 2 m j = true) := Lib.hid (by rw [part2 HX.out, hp, hp2]; rfl)
            gi_wp2
            refine hR.mono ?_
            rintro e W3 (⟨rfl, hJ3, hk3⟩ | ⟨rfl, hJx3⟩)
            · have HJ3 := Lib.hid hJ3
              have HK3 := Lib.hid (HK2.out.trans hk3)
              have HS3 := Lib.hid (Nat.le_trans HS2.out hk3.1.size)
              clear hJ3 hk3 hR hy
              gi_wp2
              go_roundw
              case rel => exact ⟨j + 1, by omega, by simp, Lib.hid (by rw [linksK_hit hlt HP.out]; exact HJ3.out), HK3, HS3⟩
              case measure => simp [intOf]; omega
            · gi_wp2
              refine bodyPost_ret (results_none rfl _ _ _) rfl ?_
              exact ⟨⟨_, rfl⟩, .inr ⟨_, ⟨j + 1, by omega, (linksK_hit hlt HP.out).symm⟩, hJx3⟩⟩
          | false =>
            have HP : Hid (part t 2 m j = false) := Lib.hid (by rw [part2 HX.out, hp, hp2]; rfl)
            clear hR hy
            gi_wp2
            refine ⟨fun _ h => (by cases h), ?_⟩
            gi_wp2
            go_roundw
            case rel => exact ⟨j + 1, by omega, by simp, Lib.hid (by rw [linksK_miss HP.out]; exact HJ2.out), HK2, HS2⟩
            case measure => simp [intOf]; omega
      · cases hp : (x.g == m) with
        | true =>
          have HP : Hid (part t 3 m j = true) := Lib.hid (by rw [part3 HX.out]; exact hp)
          gi_wp2
          refine hR.mono ?_
          rintro e W3 (⟨rfl, hJ3, hk3⟩ | ⟨rfl, hJx3⟩)
          · have HJ3 := Lib.hid hJ3
            have HK3 := Lib.hid (HK2.out.trans hk3)
            have HS3 := Lib.hid (Nat.le_trans HS2.out hk3.1.size)
            clear hJ3 hk3 hR hy
            gi_wp2
            go_roundw
            case rel => exact ⟨j + 1, by omega, by simp, Lib.hid (by rw [linksK_hit hlt HP.out]; exact HJ3.out), HK3, HS3⟩
            case measure => simp [intOf]; omega
          · gi_wp2
            refine bodyPost_ret (results_none rfl _ _ _) rfl ?_
            exact ⟨⟨_, rfl⟩, .inr ⟨_, ⟨j + 1, by omega, (linksK_hit hlt HP.out).symm⟩, hJx3⟩⟩
        | false =>
          have HP : Hid (part t 3 m j = false) := Lib.hid (by rw [part3 HX.out]; exact hp)
          clear hR hy
          gi_wp2
          refine ⟨fun _ h => (by cases h), ?_⟩
          gi_wp2
          go_roundw
          case rel => exact ⟨j + 1, by omega, by simp, Lib.hid (by rw [linksK_miss HP.out]; exact HJ2.out), HK2, HS2⟩
          case measure => simp [intOf]; omega
    · obtain rfl : j = t.ls.length := by omega
      gi_wp2
      go_end0
      exact ⟨⟨_, rfl⟩, .inl ⟨_, rfl, HJs.out⟩⟩

end Go.Proofs.YtjcnjnonhncelaaDoor
