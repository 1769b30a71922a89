/-
  waypointref55.Valid, Same; trace.Of, Between, Count, Last; waypointref55.Of, Between: what each returns for every list of events.
-/
import Derived.Test.YtjcnjnonhncelaaDoorEvs
import Derived.Laws.StructEq
namespace Go.Proofs.YtjcnjnonhncelaaDoor
open Go.RowKit Go.Sort
set_option linter.unusedSimpArgs false

theorem evInfo : (Tryd.prog.info? 40).map (fun i => (i.zero, i.size, i.bytes)) = some (some (.agg #[.int .i64 0, .int .i64 0, .int .i64 0, .int .i64 0, .int .i64 0, .int .i64 0]), 6, 48) := by kernel_rfl
theorem cells_new (w : World) (xs : List Value) (T : TypeId) (g : Nat) (hg : w.heap.size = g) : ∀ (j : Nat) (u : Value), xs[j]? = some u → (w.alloc (.cells xs.toArray T)).cell? ((⟨g, 0, none⟩ : Addr).add j) = some u := by
  intro j u hj
  subst hg
  have ea : ((⟨w.heap.size, 0, none⟩ : Addr).add j) = ⟨w.heap.size, j, none⟩ := by simp [Addr.add]; omega
  rw [ea, Lib.cell_of_heap (heap_alloc_new w _), List.getElem?_toArray]
  exact hj
theorem ownE_next {B : Nat} {E : TypeId} {wr w1 : World} {v v' : Value} {l : List Ev} {o : Obj} {e : Ev} (hown : wr.ownsRow B E 6 v l.length (evL l)) (hB : B ≤ wr.heap.size)
    (h1 : w1.ownsRow B E 6 v' (l.length + 1) (evL l ++ evV e)) (hg : (wr.alloc o).grownBy w1 v.ownBlock) :
    w1.ownsRow B E 6 v' (l ++ [e]).length (evL (l ++ [e])) ∧ Below B wr w1 := by
  refine ⟨by rw [evL_snoc]; simpa using h1, ?_⟩
  exact ((Below.refl B wr).alloc hB o).grown hg (by simp; omega) (fun k hk => (hown.lt k hk).1)
theorem filter_take {l : List Ev} {p : Ev → Bool} {k : Nat} {e : Ev} (h : l[k]? = some e) : (l.take (k + 1)).filter p = if p e = true then (l.take k).filter p ++ [e] else (l.take k).filter p := by
  obtain ⟨hk, rfl⟩ := List.getElem?_eq_some_iff.1 h
  rw [List.take_succ_eq_append_getElem hk, List.filter_append]
  cases hp : p l[k] <;> simp [List.filter_cons, hp]
theorem filter_take_t {l : List Ev} {p : Ev → Bool} {k : Nat} {e : Ev} (h : l[k]? = some e) (hp : p e = true) : (l.take (k + 1)).filter p = (l.take k).filter p ++ [e] := by rw [filter_take h, if_pos hp]
theorem filter_take_f {l : List Ev} {p : Ev → Bool} {k : Nat} {e : Ev} (h : l[k]? = some e) (hp : p e = false) : (l.take (k + 1)).filter p = (l.take k).filter p := by rw [filter_take h, if_neg (by simp [hp])]
theorem filter_len (l : List Ev) (p : Ev → Bool) (k : Nat) : ((l.take k).filter p).length ≤ k := Nat.le_trans (List.length_filter_le _ _) (List.length_take_le _ _)

def ofP (q : Int) (e : Ev) : Bool := inR e.k 1 4 && (e.p == q)
def betP (a b : Int) (e : Ev) : Bool := decide (a ≤ e.t) && decide (e.t < b)
def kindP (k : Int) (e : Ev) : Bool := e.k == k
def lastP (k n : Int) (e : Ev) : Bool := (e.k == k) && (e.n == n)
def ofL (l : List Ev) (q : Int) : List Ev := l.filter (ofP q)
def betL (l : List Ev) (a b : Int) : List Ev := l.filter (betP a b)

set_option maxRecDepth 100000 in
set_option maxHeartbeats 4000000 in
theorem trace_Of (A : Option Addr) (c : Nat) (l : List Ev) (q : Int) (w : World) (hA : RdE w A l) (hm : l.length ≤ 100000) :
    Calls Tryd.prog 18 #[.slice A l.length c, .int .i64 q] w (RetE w (l.filter (ofP q))) := by
  obtain ⟨i0, hi, hz0, hz1, hz2⟩ := info_parts evInfo
  have HA := Lib.hid hA
  clear hA
  go_enter Tryd.func18, Tryd.ntmps18
  go_wp2_with fail
  go_loopw [5, 10] (fun v i wr => ∃ k : Nat, k ≤ l.length ∧ i = .int .i64 k ∧ wr.ownsRow w.heap.size 40 6 v ((l.take k).filter (ofP q)).length (evL ((l.take k).filter (ofP q))) ∧ Hid (Below w.heap.size w wr)) (fun _ i _ => l.length - (intOf i).toNat)
  case atStart => exact ⟨0, Nat.zero_le _, rfl, World.ownsRow_nil _ _ _ _, Lib.hid (Below.refl _ _)⟩
  case round =>
    obtain ⟨k, hk, rfl, hown, HW⟩ := hrel
    by_cases hlt : k < l.length
    · obtain ⟨b, o, e, rfl, he, hc⟩ := (HA.out.below HW.out).at_ hlt
      obtain ⟨q0, q1, q2, q3, q4, q5⟩ := hc
      have HE := Lib.hid he
      clear he
      obtain ⟨M, hM⟩ : ∃ M, M = (l.take k).filter (ofP q) := ⟨_, rfl⟩
      have hMl : M.length ≤ l.length := by rw [hM]; have := filter_len l (ofP q) k; omega
      rw [← hM] at hown
      have HM := Lib.hid hM
      have HO := Lib.hid hown
      clear hM hown
      have hws := HW.out.size
      cases h1 : inR e.k 1 4 with
      | false =>
        have HP : Hid ((ofP q) e = false) := Lib.hid (by simp [ofP, h1])
        have HF := Lib.hid (filter_take_f HE.out HP.out)
        go_wp2_with (first | (go_at_call 38; refine (trace_within _ _ _ _).mono ?_; rintro e1 w1 ⟨rfl, rfl⟩))
        go_roundw
        case rel => exact ⟨k + 1, by omega, by go_num, by rw [HF.out, ← HM.out]; exact HO.out.alloc _, Lib.hid (below_next HW.out (below_box _ _))⟩
        case measure => simp [intOf]; omega
      | true =>
        cases h2 : (e.p == q) with
        | false =>
          have HP : Hid ((ofP q) e = false) := Lib.hid (by simp [ofP, h1, h2])
          have HF := Lib.hid (filter_take_f HE.out HP.out)
          go_wp2_with (first | (go_at_call 38; refine (trace_within _ _ _ _).mono ?_; rintro e1 w1 ⟨rfl, rfl⟩))
          go_roundw
          case rel => exact ⟨k + 1, by omega, by go_num, by rw [HF.out, ← HM.out]; exact HO.out.alloc _, Lib.hid (below_next HW.out (below_box _ _))⟩
          case measure => simp [intOf]; omega
        | true =>
          have HP : Hid ((ofP q) e = true) := Lib.hid (by simp [ofP, h1, h2])
          have HF := Lib.hid (filter_take_t HE.out HP.out)
          have hws' : w.heap.size ≤ wr.heap.size := hws
          have HO0 := HO
          replace HO := Lib.hid (HO.out.alloc (.cells #[.int .i64 e.t, .int .i64 e.k, .int .i64 e.n, .int .i64 e.a, .int .i64 e.p, .int .i64 e.r] 40))
          replace hws : w.heap.size ≤ (wr.alloc (.cells #[.int .i64 e.t, .int .i64 e.k, .int .i64 e.n, .int .i64 e.a, .int .i64 e.p, .int .i64 e.r] 40)).heap.size := by simp; omega
          go_wp2_with (first | (go_at_call 38; refine (trace_within _ _ _ _).mono ?_; rintro e1 w1 ⟨rfl, rfl⟩) | (at_builtin; refine wpList_append_own _ rfl _ _ 22 rfl w.heap.size 40 i0 (.agg #[.int .i64 0, .int .i64 0, .int .i64 0, .int .i64 0, .int .i64 0, .int .i64 0]) 6 48 Tryd.underlying22 hi hz0 hz1 hz2 rfl (by decide) _ _ _ rfl (HO.out.alloc _) ⟨_, 0, none⟩ 1 1 [.int .i64 e.t, .int .i64 e.k, .int .i64 e.n, .int .i64 e.a, .int .i64 e.p, .int .i64 e.r] rfl rfl ?c1 ?c2 ?c3 ?c4 ?c5 ?_))
          case c1 => exact cells_new _ _ _ _ (by simp)
          case c2 => intro u hu; simp at hu; rcases hu with rfl | rfl | rfl | rfl | rfl | rfl <;> rfl
          case c3 => unfold maxLen; omega
          case c4 => omega
          case c5 => simp; omega
          intro v' w2 hown' hgrow _
          have R := ownE_next (e := e) HO.out hws hown' hgrow
          have HR := Lib.hid R
          clear hown' hgrow R
          go_wp2_with fail
          go_roundw
          case rel => exact ⟨k + 1, by omega, by go_num, by rw [HF.out, ← HM.out]; exact HR.out.1, Lib.hid ((below_next HW.out (below_box _ _)).trans HR.out.2)⟩
          case measure => simp [intOf]; omega
    · obtain rfl : k = l.length := by omega
      rw [List.take_length] at hown
      have HO := Lib.hid hown
      clear hown
      go_wp2_with fail
      go_ret
      exact retE_of HO.out HW.out

set_option maxRecDepth 100000 in
set_option maxHeartbeats 4000000 in
theorem trace_Between (A : Option Addr) (c : Nat) (l : List Ev) (a b2 : Int) (w : World) (hA : RdE w A l) (hm : l.length ≤ 100000) :
    Calls Tryd.prog 17 #[.slice A l.length c, .int .i64 a, .int .i64 b2] w (RetE w (l.filter (betP a b2))) := by
  obtain ⟨i0, hi, hz0, hz1, hz2⟩ := info_parts evInfo
  have HA := Lib.hid hA
  clear hA
  go_enter Tryd.func17, Tryd.ntmps17
  go_wp2_with fail
  go_loopw [7, 12] (fun v i wr => ∃ k : Nat, k ≤ l.length ∧ i = .int .i64 k ∧ wr.ownsRow w.heap.size 40 6 v ((l.take k).filter (betP a b2)).length (evL ((l.take k).filter (betP a b2))) ∧ Hid (Below w.heap.size w wr)) (fun _ i _ => l.length - (intOf i).toNat)
  case atStart => exact ⟨0, Nat.zero_le _, rfl, World.ownsRow_nil _ _ _ _, Lib.hid (Below.refl _ _)⟩
  case round =>
    obtain ⟨k, hk, rfl, hown, HW⟩ := hrel
    by_cases hlt : k < l.length
    · obtain ⟨b, o, e, rfl, he, hc⟩ := (HA.out.below HW.out).at_ hlt
      obtain ⟨q0, q1, q2, q3, q4, q5⟩ := hc
      have HE := Lib.hid he
      clear he
      obtain ⟨M, hM⟩ : ∃ M, M = (l.take k).filter (betP a b2) := ⟨_, rfl⟩
      have hMl : M.length ≤ l.length := by rw [hM]; have := filter_len l (betP a b2) k; omega
      rw [← hM] at hown
      have HM := Lib.hid hM
      have HO := Lib.hid hown
      clear hM hown
      have hws := HW.out.size
      by_cases g1 : a ≤ e.t
      · by_cases g2 : e.t < b2
        · skip
          have HP : Hid ((betP a b2) e = true) := Lib.hid (by simp [betP, g1, g2])
          have HF := Lib.hid (filter_take_t HE.out HP.out)
          have hws' : w.heap.size ≤ wr.heap.size := hws
          have HO0 := HO
          replace HO := Lib.hid (HO.out.alloc (.cells #[.int .i64 e.t, .int .i64 e.k, .int .i64 e.n, .int .i64 e.a, .int .i64 e.p, .int .i64 e.r] 40))
          replace hws : w.heap.size ≤ (wr.alloc (.cells #[.int .i64 e.t, .int .i64 e.k, .int .i64 e.n, .int .i64 e.a, .int .i64 e.p, .int .i64 e.r] 40)).heap.size := by simp; omega
          go_wp2_with (first | (go_at_call 38; refine (trace_within _ _ _ _).mono ?_; rintro e1 w1 ⟨rfl, rfl⟩) | (at_builtin; refine wpList_append_own _ rfl _ _ 22 rfl w.heap.size 40 i0 (.agg #[.int .i64 0, .int .i64 0, .int .i64 0, .int .i64 0, .int .i64 0, .int .i64 0]) 6 48 Tryd.underlying22 hi hz0 hz1 hz2 rfl (by decide) _ _ _ rfl (HO.out.alloc _) ⟨_, 0, none⟩ 1 1 [.int .i64 e.t, .int .i64 e.k, .int .i64 e.n, .int .i64 e.a, .int .i64 e.p, .int .i64 e.r] rfl rfl ?c1 ?c2 ?c3 ?c4 ?c5 ?_))
          case c1 => exact cells_new _ _ _ _ (by simp)
          case c2 => intro u hu; simp at hu; rcases hu with rfl | rfl | rfl | rfl | rfl | rfl <;> rfl
          case c3 => unfold maxLen; omega
          case c4 => omega
          case c5 => simp; omega
          intro v' w2 hown' hgrow _
          have R := ownE_next (e := e) HO.out hws hown' hgrow
          have HR := Lib.hid R
          clear hown' hgrow R
          go_wp2_with fail
          go_roundw
          case rel => exact ⟨k + 1, by omega, by go_num, by rw [HF.out, ← HM.out]; exact HR.out.1, Lib.hid ((below_next HW.out (below_box _ _)).trans HR.out.2)⟩
          case measure => simp [intOf]; omega
        · have g2c : b2 ≤ e.t := by omega
          have HP : Hid ((betP a b2) e = false) := Lib.hid (by simp [betP, g2])
          have HF := Lib.hid (filter_take_f HE.out HP.out)
          go_wp2_with (first | (go_at_call 38; refine (trace_within _ _ _ _).mono ?_; rintro e1 w1 ⟨rfl, rfl⟩))
          go_roundw
          case rel => exact ⟨k + 1, by omega, by go_num, by rw [HF.out, ← HM.out]; exact HO.out.alloc _, Lib.hid (below_next HW.out (below_box _ _))⟩
          case measure => simp [intOf]; omega
      · have g1c : e.t < a := by omega
        have HP : Hid ((betP a b2) e = false) := Lib.hid (by simp [betP, g1])
        have HF := Lib.hid (filter_take_f HE.out HP.out)
        go_wp2_with (first | (go_at_call 38; refine (trace_within _ _ _ _).mono ?_; rintro e1 w1 ⟨rfl, rfl⟩))
        go_roundw
        case rel => exact ⟨k + 1, by omega, by go_num, by rw [HF.out, ← HM.out]; exact HO.out.alloc _, Lib.hid (below_next HW.out (below_box _ _))⟩
        case measure => simp [intOf]; omega
    · obtain rfl : k = l.length := by omega
      rw [List.take_length] at hown
      have HO := Lib.hid hown
      clear hown
      go_wp2_with fail
      go_ret
      exact retE_of HO.out HW.out

set_option maxRecDepth 100000 in
set_option maxHeartbeats 4000000 in
theorem ref55_Of (A : Option Addr) (c : Nat) (l : List Ev) (q : Int) (w : World) (hA : RdE w A l) (hm : l.length ≤ 100000) :
    Calls Tryd.prog 19 #[.slice A l.length c, .int .i64 q] w (RetE w (l.filter (ofP q))) := by
  obtain ⟨i0, hi, hz0, hz1, hz2⟩ := info_parts evInfo
  have HA := Lib.hid hA
  clear hA
  go_enter Tryd.func19, Tryd.ntmps19
  go_wp2_with fail
  go_loopw [5, 6] (fun v i wr => ∃ k : Nat, k ≤ l.length ∧ i = .int .i64 k ∧ wr.ownsRow w.heap.size 40 6 v ((l.take k).filter (ofP q)).length (evL ((l.take k).filter (ofP q))) ∧ Hid (Below w.heap.size w wr)) (fun _ i _ => l.length - (intOf i).toNat)
  case atStart => exact ⟨0, Nat.zero_le _, rfl, World.ownsRow_nil _ _ _ _, Lib.hid (Below.refl _ _)⟩
  case round =>
    obtain ⟨k, hk, rfl, hown, HW⟩ := hrel
    by_cases hlt : k < l.length
    · obtain ⟨b, o, e, rfl, he, hc⟩ := (HA.out.below HW.out).at_ hlt
      obtain ⟨q0, q1, q2, q3, q4, q5⟩ := hc
      have HE := Lib.hid he
      clear he
      obtain ⟨M, hM⟩ : ∃ M, M = (l.take k).filter (ofP q) := ⟨_, rfl⟩
      have hMl : M.length ≤ l.length := by rw [hM]; have := filter_len l (ofP q) k; omega
      rw [← hM] at hown
      have HM := Lib.hid hM
      have HO := Lib.hid hown
      clear hM hown
      have hws := HW.out.size
      by_cases g1 : 1 ≤ e.k
      · by_cases g2 : e.k ≤ 4
        · have h1 : inR e.k 1 4 = true := inR_true.2 ⟨g1, g2⟩
          cases h2 : (e.p == q) with
          | false =>
            have HP : Hid ((ofP q) e = false) := Lib.hid (by simp [ofP, h1, h2])
            have HF := Lib.hid (filter_take_f HE.out HP.out)
            go_wp2_with fail
            go_roundw
            case rel => exact ⟨k + 1, by omega, by go_num, by rw [HF.out, ← HM.out]; exact HO.out, HW⟩
            case measure => simp [intOf]; omega
          | true =>
            have HP : Hid ((ofP q) e = true) := Lib.hid (by simp [ofP, h1, h2])
            have HF := Lib.hid (filter_take_t HE.out HP.out)
            go_wp2_with (first | (at_builtin; refine wpList_append_own _ rfl _ _ 22 rfl w.heap.size 40 i0 (.agg #[.int .i64 0, .int .i64 0, .int .i64 0, .int .i64 0, .int .i64 0, .int .i64 0]) 6 48 Tryd.underlying22 hi hz0 hz1 hz2 rfl (by decide) _ _ _ rfl (HO.out.alloc _) ⟨_, 0, none⟩ 1 1 [.int .i64 e.t, .int .i64 e.k, .int .i64 e.n, .int .i64 e.a, .int .i64 e.p, .int .i64 e.r] rfl rfl ?c1 ?c2 ?c3 ?c4 ?c5 ?_))
            case c1 => exact cells_new _ _ _ _ (by simp)
            case c2 => intro u hu; simp at hu; rcases hu with rfl | rfl | rfl | rfl | rfl | rfl <;> rfl
            case c3 => unfold maxLen; omega
            case c4 => omega
            case c5 => simp; omega
            intro v' w2 hown' hgrow _
            have R := ownE_next (e := e) HO.out hws hown' hgrow
            have HR := Lib.hid R
            clear hown' hgrow R
            go_wp2_with fail
            go_roundw
            case rel => exact ⟨k + 1, by omega, by go_num, by rw [HF.out, ← HM.out]; exact HR.out.1, Lib.hid (HW.out.trans HR.out.2)⟩
            case measure => simp [intOf]; omega
        · have h1 : inR e.k 1 4 = false := inR_false.2 (by omega)
          have g2c : 4 < e.k := by omega
          have HP : Hid ((ofP q) e = false) := Lib.hid (by simp [ofP, h1])
          have HF := Lib.hid (filter_take_f HE.out HP.out)
          go_wp2_with fail
          go_roundw
          case rel => exact ⟨k + 1, by omega, by go_num, by rw [HF.out, ← HM.out]; exact HO.out, HW⟩
          case measure => simp [intOf]; omega
      · have h1 : inR e.k 1 4 = false := inR_false.2 (by omega)
        have g1c : e.k < 1 := by omega
        have HP : Hid ((ofP q) e = false) := Lib.hid (by simp [ofP, h1])
        have HF := Lib.hid (filter_take_f HE.out HP.out)
        go_wp2_with fail
        go_roundw
        case rel => exact ⟨k + 1, by omega, by go_num, by rw [HF.out, ← HM.out]; exact HO.out, HW⟩
        case measure => simp [intOf]; omega
    · obtain rfl : k = l.length := by omega
      rw [List.take_length] at hown
      have HO := Lib.hid hown
      clear hown
      go_wp2_with fail
      go_ret
      exact retE_of HO.out HW.out

set_option maxRecDepth 100000 in
set_option maxHeartbeats 4000000 in
theorem ref55_Between (A : Option Addr) (c : Nat) (l : List Ev) (a b2 : Int) (w : World) (hA : RdE w A l) (hm : l.length ≤ 100000) :
    Calls Tryd.prog 20 #[.slice A l.length c, .int .i64 a, .int .i64 b2] w (RetE w (l.filter (betP a b2))) := by
  obtain ⟨i0, hi, hz0, hz1, hz2⟩ := info_parts evInfo
  have HA := Lib.hid hA
  clear hA
  go_enter Tryd.func20, Tryd.ntmps20
  go_wp2_with fail
  go_loopw [7, 8] (fun v i wr => ∃ k : Nat, k ≤ l.length ∧ i = .int .i64 k ∧ wr.ownsRow w.heap.size 40 6 v ((l.take k).filter (betP a b2)).length (evL ((l.take k).filter (betP a b2))) ∧ Hid (Below w.heap.size w wr)) (fun _ i _ => l.length - (intOf i).toNat)
  case atStart => exact ⟨0, Nat.zero_le _, rfl, World.ownsRow_nil _ _ _ _, Lib.hid (Below.refl _ _)⟩
  case round =>
    obtain ⟨k, hk, rfl, hown, HW⟩ := hrel
    by_cases hlt : k < l.length
    · obtain ⟨b, o, e, rfl, he, hc⟩ := (HA.out.below HW.out).at_ hlt
      obtain ⟨q0, q1, q2, q3, q4, q5⟩ := hc
      have HE := Lib.hid he
      clear he
      obtain ⟨M, hM⟩ : ∃ M, M = (l.take k).filter (betP a b2) := ⟨_, rfl⟩
      have hMl : M.length ≤ l.length := by rw [hM]; have := filter_len l (betP a b2) k; omega
      rw [← hM] at hown
      have HM := Lib.hid hM
      have HO := Lib.hid hown
      clear hM hown
      have hws := HW.out.size
      by_cases g1 : a ≤ e.t
      · by_cases g2 : e.t < b2
        · skip
          have HP : Hid ((betP a b2) e = true) := Lib.hid (by simp [betP, g1, g2])
          have HF := Lib.hid (filter_take_t HE.out HP.out)
          go_wp2_with (first | (at_builtin; refine wpList_append_own _ rfl _ _ 22 rfl w.heap.size 40 i0 (.agg #[.int .i64 0, .int .i64 0, .int .i64 0, .int .i64 0, .int .i64 0, .int .i64 0]) 6 48 Tryd.underlying22 hi hz0 hz1 hz2 rfl (by decide) _ _ _ rfl (HO.out.alloc _) ⟨_, 0, none⟩ 1 1 [.int .i64 e.t, .int .i64 e.k, .int .i64 e.n, .int .i64 e.a, .int .i64 e.p, .int .i64 e.r] rfl rfl ?c1 ?c2 ?c3 ?c4 ?c5 ?_))
          case c1 => exact cells_new _ _ _ _ (by simp)
          case c2 => intro u hu; simp at hu; rcases hu with rfl | rfl | rfl | rfl | rfl | rfl <;> rfl
          case c3 => unfold maxLen; omega
          case c4 => omega
          case c5 => simp; omega
          intro v' w2 hown' hgrow _
          have R := ownE_next (e := e) HO.out hws hown' hgrow
          have HR := Lib.hid R
          clear hown' hgrow R
          go_wp2_with fail
          go_roundw
          case rel => exact ⟨k + 1, by omega, by go_num, by rw [HF.out, ← HM.out]; exact HR.out.1, Lib.hid (HW.out.trans HR.out.2)⟩
          case measure => simp [intOf]; omega
        · have g2c : b2 ≤ e.t := by omega
          have HP : Hid ((betP a b2) e = false) := Lib.hid (by simp [betP, g2])
          have HF := Lib.hid (filter_take_f HE.out HP.out)
          go_wp2_with fail
          go_roundw
          case rel => exact ⟨k + 1, by omega, by go_num, by rw [HF.out, ← HM.out]; exact HO.out, HW⟩
          case measure => simp [intOf]; omega
      · have g1c : e.t < a := by omega
        have HP : Hid ((betP a b2) e = false) := Lib.hid (by simp [betP, g1])
        have HF := Lib.hid (filter_take_f HE.out HP.out)
        go_wp2_with fail
        go_roundw
        case rel => exact ⟨k + 1, by omega, by go_num, by rw [HF.out, ← HM.out]; exact HO.out, HW⟩
        case measure => simp [intOf]; omega
    · obtain rfl : k = l.length := by omega
      rw [List.take_length] at hown
      have HO := Lib.hid hown
      clear hown
      go_wp2_with fail
      go_ret
      exact retE_of HO.out HW.out

end Go.Proofs.YtjcnjnonhncelaaDoor
