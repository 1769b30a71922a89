/-
  waypointref55.Same; trace.Count, Last: what each returns for every list of events.
-/
import Derived.Test.YtjcnjnonhncelaaDoorSel
import Derived.ChangeKeysEq
namespace Go.Proofs.YtjcnjnonhncelaaDoor
set_option linter.unusedSimpArgs false
set_option linter.unusedVariables false
open Go.RowKit Go.Sort

theorem partE (w : World) (xs : Array Value) (i : Nat) (v : Value) (h : xs[i]? = some v) : (part 3 xs i).run Tryd.prog w = .ok v w := run_part_plain w (by kernel_rfl) h
theorem eqE (d : Nat) (w : World) (a b : Int) : (Op.equalIn (d + 1) 3 (.int .i64 a) (.int .i64 b)).run Tryd.prog w = .ok (a == b) w := run_equalIn_int w d 3 .i64 .i64 a b Tryd.underlying3
theorem eqE_int {d : Nat} {w : World} {xs ys : Array Value} {f : Field} {fs : List Field} {a b : Int} {r : Bool} (hn : f.name ≠ "_") (ht : f.type = 3) (hx : xs[f.offset]? = some (.int .i64 a)) (hy : ys[f.offset]? = some (.int .i64 b))
    (h : (Op.eqFields (d + 1) xs ys fs).run Tryd.prog w = .ok r w) : (Op.eqFields (d + 1) xs ys (f :: fs)).run Tryd.prog w = .ok (a == b && r) w := by
  simp only [Op.eqFields, if_pos hn, Sem.run_bind, Sem.run_ite, Sem.run_pure, ht, partE w _ _ _ hx, partE w _ _ _ hy, Result.andThen_ok, eqE, h]
  cases a == b <;> rfl
theorem ev_ext {x y : Ev} : (x = y) ↔ (x.t = y.t ∧ x.k = y.k ∧ x.n = y.n ∧ x.a = y.a ∧ x.p = y.p ∧ x.r = y.r) := by
  cases x; cases y; simp
theorem ev_dec (x y : Ev) : decide (x = y) = (x.t == y.t && (x.k == y.k && (x.n == y.n && (x.a == y.a && (x.p == y.p && (x.r == y.r && true)))))) := by
  rw [Bool.eq_iff_iff, decide_eq_true_eq, ev_ext]; simp
theorem ev_eq (x y : Ev) (w : World) : (Op.equalIn 10000 40 (.agg #[.int .i64 x.t, .int .i64 x.k, .int .i64 x.n, .int .i64 x.a, .int .i64 x.p, .int .i64 x.r]) (.agg #[.int .i64 y.t, .int .i64 y.k, .int .i64 y.n, .int .i64 y.a, .int .i64 y.p, .int .i64 y.r])).run Tryd.prog w = .ok (decide (x = y)) w := by
  rw [run_equalIn_struct w 9999 40 _ _ (by kernel_rfl) (by kernel_rfl), ev_dec]
  simp only [Program.fieldsOf, Tryd.underlying40]
  exact eqE_int (by decide) rfl rfl rfl (eqE_int (by decide) rfl rfl rfl (eqE_int (by decide) rfl rfl rfl (eqE_int (by decide) rfl rfl rfl (eqE_int (by decide) rfl rfl rfl (eqE_int (by decide) rfl rfl rfl (by simp [Op.eqFields]))))))
theorem ev_neq_t {x y : Ev} (h : ¬ x = y) (w : World) : (binOp .neq 40 (.agg #[.int .i64 x.t, .int .i64 x.k, .int .i64 x.n, .int .i64 x.a, .int .i64 x.p, .int .i64 x.r]) (.agg #[.int .i64 y.t, .int .i64 y.k, .int .i64 y.n, .int .i64 y.a, .int .i64 y.p, .int .i64 y.r])).run Tryd.prog w = .ok (.bool true) w := by
  rw [run_neq_struct, ev_eq]; simp [h]
theorem ev_neq_f {x y : Ev} (h : x = y) (w : World) : (binOp .neq 40 (.agg #[.int .i64 x.t, .int .i64 x.k, .int .i64 x.n, .int .i64 x.a, .int .i64 x.p, .int .i64 x.r]) (.agg #[.int .i64 y.t, .int .i64 y.k, .int .i64 y.n, .int .i64 y.a, .int .i64 y.p, .int .i64 y.r])).run Tryd.prog w = .ok (.bool false) w := by
  rw [run_neq_struct, ev_eq]; simp [h]
theorem ev_eql (x y : Ev) (w : World) : (binOp .eql 40 (.agg #[.int .i64 x.t, .int .i64 x.k, .int .i64 x.n, .int .i64 x.a, .int .i64 x.p, .int .i64 x.r]) (.agg #[.int .i64 y.t, .int .i64 y.k, .int .i64 y.n, .int .i64 y.a, .int .i64 y.p, .int .i64 y.r])).run Tryd.prog w = .ok (.bool (decide (x = y))) w := by
  rw [run_eql_struct, ev_eq]; simp
attribute [-go_sem] run_neq_struct run_equalIn_agg

def sameE (l m : List Ev) : Bool := decide (l = m)
theorem sameE_len {l m : List Ev} (h : ¬ l.length = m.length) : sameE l m = false := by
  simp only [sameE, decide_eq_false_iff_not]; intro e; exact h (by rw [e])
theorem sameE_at {l m : List Ev} {k : Nat} {x y : Ev} (h1 : l[k]? = some x) (h2 : m[k]? = some y) (h : ¬ x = y) : sameE l m = false := by
  simp only [sameE, decide_eq_false_iff_not]; intro e; rw [e, h2] at h1; exact h (by injection h1 with h1; exact h1.symm)
theorem sameE_all {l m : List Ev} (hl : l.length = m.length) (h : ∀ j, j < l.length → l[j]? = m[j]?) : sameE l m = true := by
  simp only [sameE, decide_eq_true_eq]
  apply List.ext_getElem?
  intro j
  by_cases hj : j < l.length
  · exact h j hj
  · rw [List.getElem?_eq_none (by omega), List.getElem?_eq_none (by omega)]
theorem sameE_refl (l : List Ev) : sameE l l = true := by simp [sameE]
theorem evs_next {l m : List Ev} {k : Nat} {x : Ev} (h : ∀ j, j < k → l[j]? = m[j]?) (h1 : l[k]? = some x) (h2 : m[k]? = some x) : ∀ j, j < k + 1 → l[j]? = m[j]? := by
  intro j hj
  by_cases e : j = k
  · subst e; rw [h1, h2]
  · exact h j (by omega)

set_option maxRecDepth 100000 in
set_option maxHeartbeats 2000000 in
theorem ref55_Same (A B : Option Addr) (c d : Nat) (l m : List Ev) (w : World) (hA : RdE w A l) (hB : RdE w B m) (hm : l.length ≤ 4611686018427387904) :
    Calls Tryd.prog 16 #[.slice A l.length c, .slice B m.length d] w fun e w' => e = .returned (.bool (sameE l m)) ∧ Below w.heap.size w w' := by
  obtain ⟨V, hV⟩ : ∃ V, V = sameE l m := ⟨_, rfl⟩
  rw [← hV]
  have HV := Lib.hid hV
  have HA := Lib.hid hA
  have HB := Lib.hid hB
  clear hV hA hB
  by_cases hl : l.length = m.length
  · have hl' : ((l.length : Int) != (m.length : Int)) = false := by simp [hl]
    have HL := Lib.hid hl
    clear hl
    go_enter Tryd.func16, Tryd.ntmps16
    go_wp2_with fail
    go_loopw [5] (fun i wr => ∃ k : Nat, k ≤ l.length ∧ i = .int .i64 k ∧ Hid (∀ j, j < k → l[j]? = m[j]?) ∧ Hid (Below w.heap.size w wr)) (fun i _ => l.length - (intOf i).toNat)
    case atStart => exact ⟨0, Nat.zero_le _, rfl, Lib.hid (fun j hj => absurd hj (Nat.not_lt_zero _)), Lib.hid (Below.refl _ _)⟩
    case round =>
      obtain ⟨k, hk, rfl, HJ, HW⟩ := hrel
      by_cases hlt : k < l.length
      · obtain ⟨b, o, x, rfl, hx, hcx⟩ := (HA.out.below HW.out).at_ hlt
        obtain ⟨b', o', y, rfl, hy, hcy⟩ := (HB.out.below HW.out).at_ (HL.out ▸ hlt)
        have HX := Lib.hid hx
        have HY := Lib.hid hy
        obtain ⟨q0, q1, q2, q3, q4, q5⟩ := hcx
        obtain ⟨r0, r1, r2, r3, r4, r5⟩ := hcy
        have hlt2 : (k : Int) < (m.length : Int) := by have := HL.out; omega
        clear hx hy
        by_cases hxy : x = y
        · have HJ' := Lib.hid (evs_next HJ.out HX.out (by rw [HY.out, hxy]))
          have hn := ev_neq_f hxy
          clear hxy
          go_wp2_with fail
          go_quiet (fail)
          go_wp2_with fail
          go_roundw
          case rel => exact ⟨k + 1, by omega, by go_num, HJ', Lib.hid (below_drw HW.out _)⟩
          case measure => simp [intOf]; omega
        · have HR : Hid (V = false) := Lib.hid (by rw [HV.out]; exact sameE_at HX.out HY.out hxy)
          have hn := ev_neq_t hxy
          clear hxy
          go_wp2_with fail
          go_quiet (fail)
          go_wp2_with fail
          go_ret
          exact ⟨by rw [HR.out]; rfl, below_drw HW.out _⟩
      · obtain rfl : k = l.length := by omega
        have HR : Hid (V = true) := Lib.hid (by rw [HV.out]; exact sameE_all HL.out HJ.out)
        go_wp2_with fail
        go_ret
        exact ⟨by rw [HR.out]; rfl, HW.out⟩
  · have hl' : ((l.length : Int) != (m.length : Int)) = true := by simp; omega
    have HR : Hid (V = false) := Lib.hid (by rw [HV.out]; exact sameE_len hl)
    go_enter Tryd.func16, Tryd.ntmps16
    go_wp2_with fail
    go_ret
    exact ⟨by rw [HR.out]; rfl, Below.refl _ _⟩

/-- How many events of a kind. -/
def cntL (l : List Ev) (k : Int) : Nat := (l.filter (kindP k)).length
set_option maxRecDepth 100000 in
set_option maxHeartbeats 2000000 in
theorem trace_Count (A : Option Addr) (c : Nat) (l : List Ev) (q : Int) (w : World) (hA : RdE w A l) (hm : l.length ≤ 100000) :
    Calls Tryd.prog 22 #[.slice A l.length c, .int .i64 q] w fun e w' => e = .returned (.int .i64 (cntL l q)) ∧ Below w.heap.size w w' := by
  have HA := Lib.hid hA
  clear hA
  go_enter Tryd.func22, Tryd.ntmps22
  go_wp2_with fail
  go_loopw [5, 10] (fun s i wr => ∃ k : Nat, k ≤ l.length ∧ i = .int .i64 k ∧ s = .int .i64 ((cntL (l.take k) q : Nat) : Int) ∧ Hid (Below w.heap.size w wr)) (fun _ i _ => l.length - (intOf i).toNat)
  case atStart => exact ⟨0, Nat.zero_le _, rfl, rfl, Lib.hid (Below.refl _ _)⟩
  case round =>
    obtain ⟨k, hk, rfl, rfl, HW⟩ := hrel
    have hcl : cntL (l.take k) q ≤ k := filter_len l (kindP q) k
    by_cases hlt : k < l.length
    · obtain ⟨b, o, e, rfl, he, hc⟩ := (HA.out.below HW.out).at_ hlt
      obtain ⟨q0, q1, q2, q3, q4, q5⟩ := hc
      have HE := Lib.hid he
      clear he
      cases h1 : (e.k == q) with
      | true =>
        have HN : Hid (cntL (l.take (k + 1)) q = cntL (l.take k) q + 1) := Lib.hid (by unfold cntL; rw [filter_take_t HE.out h1]; simp)
        generalize cntL (l.take k) q = m at *
        go_wp2_with fail
        go_roundw
        case rel => exact ⟨k + 1, by omega, by go_num, by rw [HN.out]; go_num, Lib.hid (below_next HW.out (below_box _ _))⟩
        case measure => simp [intOf]; omega
      | false =>
        have HN : Hid (cntL (l.take (k + 1)) q = cntL (l.take k) q) := Lib.hid (by unfold cntL; rw [filter_take_f HE.out h1])
        generalize cntL (l.take k) q = m at *
        go_wp2_with fail
        go_roundw
        case rel => exact ⟨k + 1, by omega, by go_num, by rw [HN.out], Lib.hid (below_next HW.out (below_box _ _))⟩
        case measure => simp [intOf]; omega
    · obtain rfl : k = l.length := by omega
      rw [List.take_length]
      go_wp2_with fail
      go_ret
      exact ⟨rfl, HW.out⟩

/-- The last event of a kind with a node, and whether there is one. -/
def lastL (l : List Ev) (k n : Int) : Option Ev := (l.filter (lastP k n)).getLast?
theorem lastL_hit {l : List Ev} {q m : Int} {k : Nat} {e : Ev} (h : l[k]? = some e) (hp : lastP q m e = true) (hn : ∀ j, k < j → ∀ x, l[j]? = some x → lastP q m x = false) : lastL l q m = some e := by
  obtain ⟨hk, rfl⟩ := List.getElem?_eq_some_iff.1 h
  unfold lastL
  conv => lhs; rw [← List.take_append_drop (k + 1) l, List.take_succ_eq_append_getElem hk]
  rw [List.filter_append, List.filter_append]
  have h1 : (l.drop (k + 1)).filter (lastP q m) = [] := by
    rw [List.filter_eq_nil_iff]
    intro x hx
    obtain ⟨j, hj, rfl⟩ := List.getElem_of_mem hx
    rw [List.length_drop] at hj
    have := hn (k + 1 + j) (by omega) _ (List.getElem?_eq_getElem (by omega))
    rw [List.getElem_drop]
    simp [this]
  rw [h1]
  simp [List.filter_cons, hp]
theorem lastL_none {l : List Ev} {q m : Int} (hn : ∀ (j : Nat) x, l[j]? = some x → lastP q m x = false) : lastL l q m = none := by
  unfold lastL
  rw [List.getLast?_eq_none_iff, List.filter_eq_nil_iff]
  intro x hx
  obtain ⟨j, hj, rfl⟩ := List.getElem_of_mem hx
  simp [hn j _ (List.getElem?_eq_getElem hj)]
/-- What Last returns. -/
def evOr (o : Option Ev) : Ev := o.getD ⟨0, 0, 0, 0, 0, 0⟩
def RetLast (w : World) (o : Option Ev) (e : Ending) (w' : World) : Prop :=
  e = .returned (.tuple #[.agg #[.int .i64 (evOr o).t, .int .i64 (evOr o).k, .int .i64 (evOr o).n, .int .i64 (evOr o).a, .int .i64 (evOr o).p, .int .i64 (evOr o).r], .bool o.isSome]) ∧ Below w.heap.size w w'

theorem zero_new (w : World) : (w.alloc (.cells #[.int .i64 0, .int .i64 0, .int .i64 0, .int .i64 0, .int .i64 0, .int .i64 0] 40)).heap[w.heap.size]? = some (.cells #[.int .i64 0, .int .i64 0, .int .i64 0, .int .i64 0, .int .i64 0, .int .i64 0] 40 (0, 0)) := heap_alloc_new _ _
/-- A block of six cells: each can be read and written. -/
theorem six_facts {w : World} {b : Nat} {x0 x1 x2 x3 x4 x5 : Value} {T : TypeId} (h : w.heap[b]? = some (.cells #[x0, x1, x2, x3, x4, x5] T (0, 0))) :
    w.cell? ⟨b, 0, none⟩ = some x0 ∧ w.cell? ⟨b, 1, none⟩ = some x1 ∧ w.cell? ⟨b, 2, none⟩ = some x2 ∧ w.cell? ⟨b, 3, none⟩ = some x3 ∧ w.cell? ⟨b, 4, none⟩ = some x4 ∧ w.cell? ⟨b, 5, none⟩ = some x5 ∧
    (∀ i, w.frozen? ⟨b, i, none⟩ = false) :=
  ⟨by rw [Lib.cell_of_heap h]; rfl, by rw [Lib.cell_of_heap h]; rfl, by rw [Lib.cell_of_heap h]; rfl, by rw [Lib.cell_of_heap h]; rfl, by rw [Lib.cell_of_heap h]; rfl, by rw [Lib.cell_of_heap h]; rfl, fun i => Lib.frozen_of_heap h i⟩
theorem six_set {w : World} {b : Nat} {x0 x1 x2 x3 x4 x5 y0 y1 y2 y3 y4 y5 : Value} {T : TypeId} (h : w.heap[b]? = some (.cells #[x0, x1, x2, x3, x4, x5] T (0, 0))) :
    ((((((w.setCell ⟨b, 0, none⟩ y0).setCell ⟨b, 1, none⟩ y1).setCell ⟨b, 2, none⟩ y2).setCell ⟨b, 3, none⟩ y3).setCell ⟨b, 4, none⟩ y4).setCell ⟨b, 5, none⟩ y5).heap[b]? = some (.cells #[y0, y1, y2, y3, y4, y5] T (0, 0)) :=
  heap_setCell_same _ _ _ _ _ _ (heap_setCell_same _ _ _ _ _ _ (heap_setCell_same _ _ _ _ _ _ (heap_setCell_same _ _ _ _ _ _ (heap_setCell_same _ _ _ _ _ _ (heap_setCell_same _ _ _ _ _ _ h)))))
theorem six_below {B : Nat} {w W : World} {b : Nat} {y0 y1 y2 y3 y4 y5 : Value} (hB : B ≤ b) (h : Below B w W) :
    Below B w ((((((W.setCell ⟨b, 0, none⟩ y0).setCell ⟨b, 1, none⟩ y1).setCell ⟨b, 2, none⟩ y2).setCell ⟨b, 3, none⟩ y3).setCell ⟨b, 4, none⟩ y4).setCell ⟨b, 5, none⟩ y5) :=
  (((((h.setCell (p := ⟨b, 0, none⟩) hB _).setCell (p := ⟨b, 1, none⟩) hB _).setCell (p := ⟨b, 2, none⟩) hB _).setCell (p := ⟨b, 3, none⟩) hB _).setCell (p := ⟨b, 4, none⟩) hB _).setCell (p := ⟨b, 5, none⟩) hB _

set_option maxRecDepth 100000 in
set_option maxHeartbeats 2000000 in
theorem trace_Last (A : Option Addr) (c : Nat) (l : List Ev) (q m : Int) (w : World) (hA : RdE w A l) (hm : l.length ≤ 100000) :
    Calls Tryd.prog 21 #[.slice A l.length c, .int .i64 q, .int .i64 m] w (RetLast w (lastL l q m)) := by
  obtain ⟨V, hV⟩ : ∃ V, V = lastL l q m := ⟨_, rfl⟩
  rw [← hV]
  have HV := Lib.hid hV
  have HA := Lib.hid hA
  clear hV hA
  have HZ := Lib.hid (zero_new w)
  have HB := Lib.hid (below_box w (.cells #[.int .i64 0, .int .i64 0, .int .i64 0, .int .i64 0, .int .i64 0, .int .i64 0] 40))
  have HA2 := Lib.hid (HA.out.below HB.out)
  go_enter Tryd.func21, Tryd.ntmps21
  go_wp2_with fail
  obtain ⟨W, hW⟩ : ∃ W, W = w.alloc (.cells #[.int .i64 0, .int .i64 0, .int .i64 0, .int .i64 0, .int .i64 0, .int .i64 0] 40) := ⟨_, rfl⟩
  rw [← hW] at HZ HB HA2 ⊢
  clear hW HA
  obtain ⟨z0, z1, z2, z3, z4, z5, zf⟩ := six_facts HZ.out
  have g0 := zf 0
  have g1 := zf 1
  have g2 := zf 2
  have g3 := zf 3
  have g4 := zf 4
  have g5 := zf 5
  clear zf
  go_loop [8] (fun i => ∃ k : Int, -1 ≤ k ∧ k < (l.length : Int) ∧ i = .int .i64 k ∧ Hid (∀ j : Nat, k < (j : Int) → ∀ x, l[j]? = some x → lastP q m x = false)) (fun i => (intOf i + 1).toNat)
  case atStart => exact ⟨_, by omega, by omega, rfl, Lib.hid (fun j hj x hx => by have := (List.getElem?_eq_some_iff.1 hx).1; omega)⟩
  case round =>
    obtain ⟨k, hk1, hk2, rfl, HN⟩ := hrel
    by_cases hk : 0 ≤ k
    · obtain ⟨j, rfl⟩ : ∃ j : Nat, k = (j : Int) := ⟨k.toNat, by omega⟩
      obtain ⟨b, o, e, rfl, he, hc⟩ := HA2.out.at_ (k := j) (by omega)
      obtain ⟨q0, q1, q2, q3, q4, q5⟩ := hc
      have HE := Lib.hid he
      clear he
      cases h1 : (e.k == q) with
      | false =>
        have HN2 : Hid (∀ i : Nat, (j : Int) - 1 < (i : Int) → ∀ x, l[i]? = some x → lastP q m x = false) := Lib.hid fun i hi x hx => by
          by_cases hij : i = j
          · subst hij; rw [HE.out] at hx; injection hx with hx; subst hx; simp [lastP, h1]
          · exact HN.out i (by omega) x hx
        go_wp2_with fail
        go_round
        case rel => exact ⟨_, by omega, by omega, rfl, HN2⟩
        case measure => simp [intOf]
      | true =>
        cases h2 : (e.n == m) with
        | false =>
          have HN2 : Hid (∀ i : Nat, (j : Int) - 1 < (i : Int) → ∀ x, l[i]? = some x → lastP q m x = false) := Lib.hid fun i hi x hx => by
            by_cases hij : i = j
            · subst hij; rw [HE.out] at hx; injection hx with hx; subst hx; simp [lastP, h1, h2]
            · exact HN.out i (by omega) x hx
          go_wp2_with fail
          go_round
          case rel => exact ⟨_, by omega, by omega, rfl, HN2⟩
          case measure => simp [intOf]
        | true =>
          have HR : Hid (V = some e) := Lib.hid (by rw [HV.out]; exact lastL_hit HE.out (by simp [lastP, h1, h2]) (fun i hi x hx => HN.out i (by omega) x hx))
          go_wp2_with fail
          obtain ⟨y0, y1, y2, y3, y4, y5, _⟩ := six_facts (six_set HZ.out (y0 := .int .i64 e.t) (y1 := .int .i64 e.k) (y2 := .int .i64 e.n) (y3 := .int .i64 e.a) (y4 := .int .i64 e.p) (y5 := .int .i64 e.r))
          refine bodyPost_ret (v := .tuple #[.agg #[.int .i64 e.t, .int .i64 e.k, .int .i64 e.n, .int .i64 e.a, .int .i64 e.p, .int .i64 e.r], .bool true]) (by simp [results, Tryd.results21, go_sem, y0, y1, y2, y3, y4, y5]) rfl ⟨by rw [HR.out]; rfl, six_below (Nat.le_refl _) HB.out⟩
    · obtain rfl : k = -1 := by omega
      have HR : Hid (V = none) := Lib.hid (by rw [HV.out]; exact lastL_none (fun j x hx => HN.out j (by omega) x hx))
      go_wp2_with fail
      obtain ⟨y0, y1, y2, y3, y4, y5, _⟩ := six_facts (six_set HZ.out (y0 := .int .i64 0) (y1 := .int .i64 0) (y2 := .int .i64 0) (y3 := .int .i64 0) (y4 := .int .i64 0) (y5 := .int .i64 0))
      refine bodyPost_ret (v := .tuple #[.agg #[.int .i64 0, .int .i64 0, .int .i64 0, .int .i64 0, .int .i64 0, .int .i64 0], .bool false]) (by simp [results, Tryd.results21, go_sem, y0, y1, y2, y3, y4, y5]) rfl ⟨by rw [HR.out]; rfl, six_below (Nat.le_refl _) HB.out⟩

end Go.Proofs.YtjcnjnonhncelaaDoor
