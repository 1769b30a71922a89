/-
  Contracts of topology.Same and waypointref09.Same, and of what they call: slices.Equal, slices.Index, slices.Contains, busy. Both return 'same t u'.
-/
import Derived.Test.YthiegnkjcfdinaaDoorValid
import Derived.Laws.StructEq
import Derived.ChangeKeysEq
namespace Go.Proofs.YthiegnkjcfdinaaDoor
open Go.RowKit Go.Sort

/-- The index of the first mark, counted from k; -1 if there is none. -/
def idxF (k : Int) : List Bool → Int
  | [] => -1
  | x :: r => if x = true then k else idxF (k + 1) r
def busyL (xs : List Bool) : Bool := xs.any id
theorem idxF_busy (xs : List Bool) : ∀ k : Int, 0 ≤ k → decide (0 ≤ idxF k xs) = busyL xs := by
  induction xs with
  | nil => intro k _; rfl
  | cons x r ih =>
    intro k hk
    cases x with
    | true => simp [idxF, busyL, hk]
    | false => rw [show idxF k (false :: r) = idxF (k + 1) r from rfl, ih (k + 1) (by omega)]; simp [busyL]

theorem bools_at {w : World} {A : Option Addr} {xs : List Bool} {k : Nat} (h : Rd w A (xs.map Value.bool)) (hk : k < xs.length) : ∃ b o x, A = some ⟨b, o, none⟩ ∧ xs.drop k = x :: xs.drop (k + 1) ∧ w.cell? ⟨b, o + k, none⟩ = some (.bool x) := by
  obtain ⟨b, o, hA, hc⟩ := h.at_ (k := k) (u := .bool xs[k]) (by simp [List.getElem?_eq_getElem hk])
  exact ⟨b, o, xs[k], hA, List.drop_eq_getElem_cons hk, hc⟩

theorem slices_Index_bool (A : Option Addr) (c : Nat) (xs : List Bool) (w : World) (hA : Rd w A (xs.map Value.bool)) (hm : xs.length ≤ 4611686018427387904) :
    Calls Tryd.prog 51 #[.slice A xs.length c, .bool true] w fun e w' => e = .returned (.int .i64 (idxF 0 xs)) ∧ w = w' := by
  obtain ⟨m, hM⟩ : ∃ m, m = xs.length := ⟨_, rfl⟩
  obtain ⟨V, hV⟩ : ∃ V, V = idxF 0 xs := ⟨_, rfl⟩
  rw [← hM, ← hV]
  rw [← hM] at hm
  have HA := Lib.hid hA; clear hA
  have HM := Lib.hid hM; clear hM
  have HV := Lib.hid hV; clear hV
  go_enter Tryd.func51, Tryd.ntmps51
  go_wp2_with fail
  go_loopw [8] (fun i wr => ∃ k : Nat, k ≤ m ∧ i = .int .i64 k ∧ Hid (V = idxF k (xs.drop k)) ∧ w = wr) (fun i _ => m - (intOf i).toNat)
  case atStart => exact ⟨0, Nat.zero_le _, rfl, Lib.hid HV.out, rfl⟩
  case round =>
    obtain ⟨k, hk, rfl, HR, rfl⟩ := hrel
    by_cases hlt : k < m
    · obtain ⟨b, o, x, rfl, hd, hc⟩ := bools_at HA.out (k := k) (by rw [← HM.out]; exact hlt)
      have HR2 := Lib.hid (HR.out.trans (congrArg (idxF k) hd)); clear HR hd
      cases x with
      | true =>
        have HR3 : Hid (V = (k : Int)) := Lib.hid HR2.out; clear HR2
        go_wp2_with fail
        go_ret
        exact ⟨by rw [HR3.out]; rfl, rfl⟩
      | false =>
        have HR3 : Hid (V = idxF ((k + 1 : Nat) : Int) (xs.drop (k + 1))) := Lib.hid HR2.out; clear HR2
        go_wp2_with fail
        go_roundw
        case rel => exact ⟨k + 1, by omega, by go_num, HR3, trivial⟩
        case measure => simp [intOf]; omega
    · obtain rfl : k = m := by omega
      have HR3 : Hid (V = -1) := Lib.hid (HR.out.trans (by rw [List.drop_of_length_le (by rw [← HM.out]; exact Nat.le_refl _)]; rfl)); clear HR
      go_wp2_with fail
      go_ret
      exact ⟨by rw [HR3.out]; rfl, rfl⟩

theorem slices_Contains_bool (A : Option Addr) (c : Nat) (xs : List Bool) (w : World) (hA : Rd w A (xs.map Value.bool)) (hm : xs.length ≤ 4611686018427387904) :
    Calls Tryd.prog 43 #[.slice A xs.length c, .bool true] w fun e w' => e = .returned (.bool (busyL xs)) ∧ w = w' := by
  have h := Lib.hid (idxF_busy xs 0 (Int.le_refl 0))
  go_enter Tryd.func43, Tryd.ntmps43
  go_wp2_with (go_at_call 51; refine (slices_Index_bool _ _ xs _ hA hm).mono ?_; rintro e w1 ⟨rfl, rfl⟩)
  go_ret
  exact ⟨by rw [← h.out]; rfl, rfl⟩

theorem ref09_busy (t : Topo) (A1 A2 : Option Addr) (c1 c2 : Nat) (w : World) (hT : TAt w A1 A2 t) (hm : t.ov.length ≤ 4611686018427387904) :
    Calls Tryd.prog 45 #[.agg #[.int .i64 t.n, .slice A1 t.ov.length c1, .slice A2 t.ls.length c2]] w fun e w' => e = .returned (.bool (busyL t.ov)) ∧ Below w.heap.size w w' := by
  have hT' := hT
  have hb0 := below_box w (.cells #[.int .i64 t.n, .slice A1 t.ov.length c1, .slice A2 t.ls.length c2] 25)
  have HT := hT.below hb0
  have HB := hb0
  have b0 := box0 w (.int .i64 t.n) (.slice A1 t.ov.length c1) (.slice A2 t.ls.length c2) 25
  have b1 := box1 w (.int .i64 t.n) (.slice A1 t.ov.length c1) (.slice A2 t.ls.length c2) 25
  have b2 := box2 w (.int .i64 t.n) (.slice A1 t.ov.length c1) (.slice A2 t.ls.length c2) 25
  clear hb0 hT
  have HT' := Lib.hid hT'; clear hT'
  obtain ⟨m, hM⟩ : ∃ m, m = t.ov.length := ⟨_, rfl⟩
  obtain ⟨V, hV⟩ : ∃ V, V = busyL t.ov := ⟨_, rfl⟩
  have HA := Lib.hid HT.ov; clear HT
  rw [← hM] at b1 hm HB b0 b2 HA
  rw [← hM, ← hV]
  have HM := Lib.hid hM; clear hM
  have HV := Lib.hid hV; clear hV
  go_enter Tryd.func45, Tryd.ntmps45
  go_wp2_with fail
  go_loopw [3] (fun i wr => ∃ k : Nat, k ≤ m ∧ i = .int .i64 k ∧ Hid (V = busyL (t.ov.drop k)) ∧ w.alloc (.cells #[.int .i64 t.n, .slice A1 m c1, .slice A2 t.ls.length c2] 25) = wr) (fun i _ => m - (intOf i).toNat)
  case atStart => exact ⟨0, Nat.zero_le _, rfl, Lib.hid HV.out, rfl⟩
  case round =>
    obtain ⟨k, hk, rfl, HR, rfl⟩ := hrel
    by_cases hlt : k < m
    · obtain ⟨b, o, x, rfl, hd, hc⟩ := bools_at HA.out (k := k) (by rw [← HM.out]; exact hlt)
      have HR2 := Lib.hid (HR.out.trans (congrArg busyL hd)); clear HR hd
      cases x with
      | true =>
        have HR3 : Hid (V = true) := Lib.hid HR2.out; clear HR2
        go_wp2_with fail
        go_ret
        exact ⟨by rw [HR3.out]; rfl, HB⟩
      | false =>
        have HR3 : Hid (V = busyL (t.ov.drop (k + 1))) := Lib.hid HR2.out; clear HR2
        go_wp2_with fail
        go_roundw
        case rel => exact ⟨k + 1, by omega, by go_num, HR3, trivial⟩
        case measure => simp [intOf]; omega
    · obtain rfl : k = m := by omega
      have HR3 : Hid (V = false) := Lib.hid (HR.out.trans (by rw [List.drop_of_length_le (by rw [← HM.out]; exact Nat.le_refl _)]; rfl)); clear HR
      go_wp2_with fail
      go_ret
      exact ⟨by rw [HR3.out]; rfl, HB⟩

set_option maxHeartbeats 1000000 in
theorem slices_Equal_bool (A B : Option Addr) (c d : Nat) (xs ys : List Bool) (w : World) (hA : Rd w A (xs.map Value.bool)) (hB : Rd w B (ys.map Value.bool)) (hm : xs.length ≤ 4611686018427387904) :
    Calls Tryd.prog 44 #[.slice A xs.length c, .slice B ys.length d] w fun e w' => e = .returned (.bool (decide (xs = ys))) ∧ Below w.heap.size w w' := by
  obtain ⟨V, hV⟩ : ∃ V, V = decide (xs = ys) := ⟨_, rfl⟩
  by_cases hl : xs.length = ys.length
  · obtain ⟨m, hM⟩ : ∃ m, m = xs.length := ⟨_, rfl⟩
    rw [← hl, ← hM, ← hV]
    rw [← hM] at hm
    have HA := Lib.hid hA; clear hA
    have HB := Lib.hid hB; clear hB
    have HM2 := Lib.hid (hM.trans hl)
    have HM := Lib.hid hM; clear hM hl
    have HV := Lib.hid hV; clear hV
    go_enter Tryd.func44, Tryd.ntmps44
    go_wp2_with fail
    go_loopw [13] (fun i wr => ∃ k : Nat, k ≤ m ∧ i = .int .i64 k ∧ Hid (V = decide (xs.drop k = ys.drop k)) ∧ Below w.heap.size w wr) (fun i _ => m - (intOf i).toNat)
    case atStart => exact ⟨0, Nat.zero_le _, rfl, Lib.hid HV.out, Below.refl _ _⟩
    case round =>
      obtain ⟨k, hk, rfl, HR, HBW⟩ := hrel
      by_cases hlt : k < m
      · obtain ⟨b, o, x, rfl, hd, hc⟩ := bools_at (HA.out.below HBW) (k := k) (by rw [← HM.out]; exact hlt)
        obtain ⟨b', o', y, rfl, hd', hc'⟩ := bools_at (HB.out.below HBW) (k := k) (by rw [← HM2.out]; exact hlt)
        have HR2 : Hid (V = decide (x :: xs.drop (k + 1) = y :: ys.drop (k + 1))) := Lib.hid (HR.out.trans (by rw [hd, hd'])); clear HR hd hd'
        by_cases hxy : x = y
        · subst hxy
          have HR3 : Hid (V = decide (xs.drop (k + 1) = ys.drop (k + 1))) := Lib.hid (HR2.out.trans (by simp)); clear HR2
          cases x
          all_goals
            go_wp2_with fail
            have kq_hc := cell_regrown hc
            have kq_hc' := cell_regrown hc'
            refine wp_region_quiet_below (by kernel_rfl) (by kernel_rfl) ?_
            repeat (go_big_quiet_step (fail))
            refine wpQuiet_nil ?_
            intro w2 hb2
            replace hb2 := below_of_regrown hb2
            clear kq_hc kq_hc'
            replace hc := cell_up hb2 hc
            replace hc' := cell_up hb2 hc'
            replace HBW := below_next HBW hb2
            go_wp2_with fail
            go_roundw
            case rel => exact ⟨k + 1, by omega, by go_num, HR3, HBW⟩
            case measure => simp [intOf]; omega
        · have HR3 : Hid (V = false) := Lib.hid (HR2.out.trans (by simp [hxy])); clear HR2
          have hxy' : (x == y) = false := by simp [hxy]
          go_wp2_with fail
          have kq_hc := cell_regrown hc
          have kq_hc' := cell_regrown hc'
          refine wp_region_quiet_below (by kernel_rfl) (by kernel_rfl) ?_
          repeat (go_big_quiet_step (fail))
          refine wpQuiet_nil ?_
          intro w2 hb2
          replace hb2 := below_of_regrown hb2
          clear kq_hc kq_hc'
          replace hc := cell_up hb2 hc
          replace hc' := cell_up hb2 hc'
          replace HBW := below_next HBW hb2
          go_wp2_with fail
          go_ret
          exact ⟨by rw [HR3.out]; rfl, HBW⟩
      · obtain rfl : k = m := by omega
        have HR3 : Hid (V = true) := Lib.hid (HR.out.trans (by rw [List.drop_of_length_le (by rw [← HM.out]; exact Nat.le_refl _), List.drop_of_length_le (by rw [← HM2.out]; exact Nat.le_refl _)]; rfl)); clear HR
        go_wp2_with fail
        go_ret
        exact ⟨by rw [HR3.out]; rfl, HBW⟩
  · have HV : Hid (V = false) := Lib.hid (hV.trans (by simp; rintro rfl; exact hl rfl)); clear hV
    have hne : ((xs.length : Int) != (ys.length : Int)) = true := by simp; omega
    rw [show decide (xs = ys) = false by simp; rintro rfl; exact hl rfl]
    clear hl
    go_enter Tryd.func44, Tryd.ntmps44
    go_wp2_with fail
    go_ret
    exact ⟨rfl, Below.refl _ _⟩

theorem part_cost (w : World) (a b c d e f g : Value) : (part 44 #[a, b, c, d, e, f, g] 2).run Tryd.prog w = .ok (.agg #[c, d]) w := by kernel_rfl
theorem part_i (w : World) (xs : Array Value) (i : Nat) (v : Value) (h : xs[i]? = some v) : (part 3 xs i).run Tryd.prog w = .ok v w := run_part_plain w (by kernel_rfl) h
theorem eq_i (d : Nat) (w : World) (a b : Int) : (Op.equalIn (d + 1) 3 (.int .i64 a) (.int .i64 b)).run Tryd.prog w = .ok (a == b) w := run_equalIn_int w d 3 .i64 .i64 a b Tryd.underlying3
theorem eq_cost (d : Nat) (w : World) (a b c e : Int) : (Op.equalIn (d + 2) 44 (.agg #[.int .i64 a, .int .i64 b]) (.agg #[.int .i64 c, .int .i64 e])).run Tryd.prog w = .ok (a == c && b == e) w := by
  obtain ⟨i, hi⟩ := info_of_underlying (P := Tryd.prog) Tryd.underlying3
  rw [run_equalIn_array w (d + 1) _ _ Tryd.underlying44 hi, show Tryd.prog.cellsOf 3 = 1 by kernel_rfl]
  simp only [List.range_succ, List.range_zero, List.nil_append, List.cons_append, Op.eqItems, Sem.run_bind, Sem.run_ite, Sem.run_pure]
  rw [part_i w _ _ (.int .i64 a) rfl]; simp only [Result.andThen_ok]
  rw [part_i w _ _ (.int .i64 c) rfl]; simp only [Result.andThen_ok, eq_i]
  rw [part_i w _ _ (.int .i64 b) rfl]; simp only [Result.andThen_ok]
  rw [part_i w _ _ (.int .i64 e) rfl]; simp only [Result.andThen_ok, eq_i]
  cases a == c <;> cases b == e <;> rfl
theorem eqF_int {d : Nat} {w : World} {xs ys : Array Value} {f : Field} {fs : List Field} {a b : Int} {r : Bool} (hn : f.name ≠ "_") (ht : f.type = 3) (hx : xs[f.offset]? = some (.int .i64 a)) (hy : ys[f.offset]? = some (.int .i64 b))
    (h : (Op.eqFields (d + 1) xs ys fs).run Tryd.prog w = .ok r w) : (Op.eqFields (d + 1) xs ys (f :: fs)).run Tryd.prog w = .ok (a == b && r) w := by
  simp only [Op.eqFields, if_pos hn, Sem.run_bind, Sem.run_ite, Sem.run_pure, ht, part_i w _ _ _ hx, part_i w _ _ _ hy, Result.andThen_ok, eq_i, h]
  cases a == b <;> rfl
theorem eqF_cost {d : Nat} {w : World} {xs ys : Array Value} {f : Field} {fs : List Field} {a b c e : Int} {r : Bool} (hn : f.name ≠ "_") (ht : f.type = 44) (hx : (part 44 xs f.offset).run Tryd.prog w = .ok (.agg #[.int .i64 a, .int .i64 b]) w) (hy : (part 44 ys f.offset).run Tryd.prog w = .ok (.agg #[.int .i64 c, .int .i64 e]) w)
    (h : (Op.eqFields (d + 2) xs ys fs).run Tryd.prog w = .ok r w) : (Op.eqFields (d + 2) xs ys (f :: fs)).run Tryd.prog w = .ok ((a == c && b == e) && r) w := by
  simp only [Op.eqFields, if_pos hn, Sem.run_bind, Sem.run_ite, Sem.run_pure, ht, hx, hy, Result.andThen_ok, eq_cost, h]
  cases a == c && b == e <;> rfl
theorem link_ext {x y : Lnk} : (x = y) ↔ (x.a = y.a ∧ x.b = y.b ∧ (x.c0 = y.c0 ∧ x.c1 = y.c1) ∧ x.cap = y.cap ∧ x.dl = y.dl ∧ x.g = y.g) := by
  cases x; cases y; simp [and_assoc]
theorem link_dec (x y : Lnk) : decide (x = y) = (x.a == y.a && (x.b == y.b && ((x.c0 == y.c0 && x.c1 == y.c1) && (x.cap == y.cap && (x.dl == y.dl && (x.g == y.g && true)))))) := by
  rw [Bool.eq_iff_iff, decide_eq_true_eq, link_ext]; simp [and_assoc]
theorem link_eq (x y : Lnk) (w : World) : (Op.equalIn 10000 46 (.agg #[.int .i64 x.a, .int .i64 x.b, .int .i64 x.c0, .int .i64 x.c1, .int .i64 x.cap, .int .i64 x.dl, .int .i64 x.g]) (.agg #[.int .i64 y.a, .int .i64 y.b, .int .i64 y.c0, .int .i64 y.c1, .int .i64 y.cap, .int .i64 y.dl, .int .i64 y.g])).run Tryd.prog w = .ok (decide (x = y)) w := by
  rw [run_equalIn_struct w 9999 46 _ _ (by kernel_rfl) (by kernel_rfl), link_dec]
  simp only [Program.fieldsOf, Tryd.underlying46]
  exact eqF_int (by decide) rfl rfl rfl (eqF_int (by decide) rfl rfl rfl (eqF_cost (by decide) rfl (part_cost ..) (part_cost ..) (eqF_int (by decide) rfl rfl rfl (eqF_int (by decide) rfl rfl rfl (eqF_int (by decide) rfl rfl rfl (by simp [Op.eqFields]))))))
theorem link_neq (x y : Lnk) (w : World) : (binOp .neq 46 (.agg #[.int .i64 x.a, .int .i64 x.b, .int .i64 x.c0, .int .i64 x.c1, .int .i64 x.cap, .int .i64 x.dl, .int .i64 x.g]) (.agg #[.int .i64 y.a, .int .i64 y.b, .int .i64 y.c0, .int .i64 y.c1, .int .i64 y.cap, .int .i64 y.dl, .int .i64 y.g])).run Tryd.prog w = .ok (.bool (!decide (x = y))) w := by
  rw [run_neq_struct, link_eq]; rfl
/-- A link's seven cells, as a value. -/
def cellsL (x : Lnk) : Array Value := #[.int .i64 x.a, .int .i64 x.b, .int .i64 x.c0, .int .i64 x.c1, .int .i64 x.cap, .int .i64 x.dl, .int .i64 x.g]
theorem link_neq_f {x y : Lnk} (h : x = y) (w : World) : (binOp .neq 46 (.agg #[.int .i64 x.a, .int .i64 x.b, .int .i64 x.c0, .int .i64 x.c1, .int .i64 x.cap, .int .i64 x.dl, .int .i64 x.g]) (.agg #[.int .i64 y.a, .int .i64 y.b, .int .i64 y.c0, .int .i64 y.c1, .int .i64 y.cap, .int .i64 y.dl, .int .i64 y.g])).run Tryd.prog w = .ok (.bool false) w := by
  rw [link_neq]; simp [h]
theorem link_neq_t {x y : Lnk} (h : ¬ x = y) (w : World) : (binOp .neq 46 (.agg #[.int .i64 x.a, .int .i64 x.b, .int .i64 x.c0, .int .i64 x.c1, .int .i64 x.cap, .int .i64 x.dl, .int .i64 x.g]) (.agg #[.int .i64 y.a, .int .i64 y.b, .int .i64 y.c0, .int .i64 y.c1, .int .i64 y.cap, .int .i64 y.dl, .int .i64 y.g])).run Tryd.prog w = .ok (.bool true) w := by
  rw [link_neq]; simp [h]
attribute [-go_sem] run_neq_struct run_equalIn_agg

theorem links_at {w : World} {A : Option Addr} {ls : List Lnk} {k : Nat} (h : RdL w A ls) (hk : k < ls.length) : ∃ b o l, A = some ⟨b, o, none⟩ ∧ ls.drop k = l :: ls.drop (k + 1) ∧ LAt w b (o + k * 7) l := by
  obtain ⟨b, o, l, hA, hl, hc⟩ := h.at_ hk
  rw [List.getElem?_eq_getElem hk] at hl
  injection hl with hl
  exact ⟨b, o, l, hA, by rw [← hl]; exact List.drop_eq_getElem_cons hk, hc⟩

set_option maxHeartbeats 1000000 in
theorem slices_Equal_Link (A B : Option Addr) (c d : Nat) (xs ys : List Lnk) (w : World) (hA : RdL w A xs) (hB : RdL w B ys) (hm : xs.length ≤ 4611686018427387904) :
    Calls Tryd.prog 42 #[.slice A xs.length c, .slice B ys.length d] w fun e w' => e = .returned (.bool (decide (xs = ys))) ∧ Below w.heap.size w w' := by
  obtain ⟨V, hV⟩ : ∃ V, V = decide (xs = ys) := ⟨_, rfl⟩
  by_cases hl : xs.length = ys.length
  · obtain ⟨m, hM⟩ : ∃ m, m = xs.length := ⟨_, rfl⟩
    rw [← hl, ← hM, ← hV]
    rw [← hM] at hm
    have HA := Lib.hid hA; clear hA
    have HB := Lib.hid hB; clear hB
    have HM2 := Lib.hid (hM.trans hl)
    have HM := Lib.hid hM; clear hM hl
    have HV := Lib.hid hV; clear hV
    go_enter Tryd.func42, Tryd.ntmps42
    go_wp2_with fail
    go_loopw [13] (fun i wr => ∃ k : Nat, k ≤ m ∧ i = .int .i64 k ∧ Hid (V = decide (xs.drop k = ys.drop k)) ∧ Below w.heap.size w wr) (fun i _ => m - (intOf i).toNat)
    case atStart => exact ⟨0, Nat.zero_le _, rfl, Lib.hid HV.out, Below.refl _ _⟩
    case round =>
      obtain ⟨k, hk, rfl, HR, HBW⟩ := hrel
      by_cases hlt : k < m
      · obtain ⟨b, o, x, rfl, hd, hc⟩ := links_at (HA.out.below HBW) (k := k) (by rw [← HM.out]; exact hlt)
        obtain ⟨b', o', y, rfl, hd', hc'⟩ := links_at (HB.out.below HBW) (k := k) (by rw [← HM2.out]; exact hlt)
        obtain ⟨q0, q1, q2, q3, q4, q5, q6⟩ := hc
        obtain ⟨p0, p1, p2, p3, p4, p5, p6⟩ := hc'
        have HR2 : Hid (V = decide (x :: xs.drop (k + 1) = y :: ys.drop (k + 1))) := Lib.hid (HR.out.trans (by rw [hd, hd'])); clear HR hd hd'
        by_cases hxy : x = y
        · have hq := link_neq_f hxy
          subst hxy
          have HR3 : Hid (V = decide (xs.drop (k + 1) = ys.drop (k + 1))) := Lib.hid (HR2.out.trans (by simp)); clear HR2
          go_wp2_with fail
          have kq_q0 := cell_regrown q0
          have kq_q1 := cell_regrown q1
          have kq_q2 := cell_regrown q2
          have kq_q3 := cell_regrown q3
          have kq_q4 := cell_regrown q4
          have kq_q5 := cell_regrown q5
          have kq_q6 := cell_regrown q6
          have kq_p0 := cell_regrown p0
          have kq_p1 := cell_regrown p1
          have kq_p2 := cell_regrown p2
          have kq_p3 := cell_regrown p3
          have kq_p4 := cell_regrown p4
          have kq_p5 := cell_regrown p5
          have kq_p6 := cell_regrown p6
          refine wp_region_quiet_below (by kernel_rfl) (by kernel_rfl) ?_
          repeat (go_big_quiet_step (fail))
          refine wpQuiet_nil ?_
          intro w2 hb2
          replace hb2 := below_of_regrown hb2
          clear kq_q0 kq_q1 kq_q2 kq_q3 kq_q4 kq_q5 kq_q6 kq_p0 kq_p1 kq_p2 kq_p3 kq_p4 kq_p5 kq_p6
          replace q0 := cell_up hb2 q0
          replace q1 := cell_up hb2 q1
          replace q2 := cell_up hb2 q2
          replace q3 := cell_up hb2 q3
          replace q4 := cell_up hb2 q4
          replace q5 := cell_up hb2 q5
          replace q6 := cell_up hb2 q6
          replace p0 := cell_up hb2 p0
          replace p1 := cell_up hb2 p1
          replace p2 := cell_up hb2 p2
          replace p3 := cell_up hb2 p3
          replace p4 := cell_up hb2 p4
          replace p5 := cell_up hb2 p5
          replace p6 := cell_up hb2 p6
          replace HBW := below_next HBW hb2
          go_wp2_with fail
          go_roundw
          case rel => exact ⟨k + 1, by omega, by go_num, HR3, HBW⟩
          case measure => simp [intOf]; omega
        · have HR3 : Hid (V = false) := Lib.hid (HR2.out.trans (by simp [hxy])); clear HR2
          have hq := link_neq_t hxy
          go_wp2_with fail
          have kq_q0 := cell_regrown q0
          have kq_q1 := cell_regrown q1
          have kq_q2 := cell_regrown q2
          have kq_q3 := cell_regrown q3
          have kq_q4 := cell_regrown q4
          have kq_q5 := cell_regrown q5
          have kq_q6 := cell_regrown q6
          have kq_p0 := cell_regrown p0
          have kq_p1 := cell_regrown p1
          have kq_p2 := cell_regrown p2
          have kq_p3 := cell_regrown p3
          have kq_p4 := cell_regrown p4
          have kq_p5 := cell_regrown p5
          have kq_p6 := cell_regrown p6
          refine wp_region_quiet_below (by kernel_rfl) (by kernel_rfl) ?_
          repeat (go_big_quiet_step (fail))
          refine wpQuiet_nil ?_
          intro w2 hb2
          replace hb2 := below_of_regrown hb2
          clear kq_q0 kq_q1 kq_q2 kq_q3 kq_q4 kq_q5 kq_q6 kq_p0 kq_p1 kq_p2 kq_p3 kq_p4 kq_p5 kq_p6
          replace q0 := cell_up hb2 q0
          replace q1 := cell_up hb2 q1
          replace q2 := cell_up hb2 q2
          replace q3 := cell_up hb2 q3
          replace q4 := cell_up hb2 q4
          replace q5 := cell_up hb2 q5
          replace q6 := cell_up hb2 q6
          replace p0 := cell_up hb2 p0
          replace p1 := cell_up hb2 p1
          replace p2 := cell_up hb2 p2
          replace p3 := cell_up hb2 p3
          replace p4 := cell_up hb2 p4
          replace p5 := cell_up hb2 p5
          replace p6 := cell_up hb2 p6
          replace HBW := below_next HBW hb2
          go_wp2_with fail
          go_ret
          exact ⟨by rw [HR3.out]; rfl, HBW⟩
      · obtain rfl : k = m := by omega
        have HR3 : Hid (V = true) := Lib.hid (HR.out.trans (by rw [List.drop_of_length_le (by rw [← HM.out]; exact Nat.le_refl _), List.drop_of_length_le (by rw [← HM2.out]; exact Nat.le_refl _)]; rfl)); clear HR
        go_wp2_with fail
        go_ret
        exact ⟨by rw [HR3.out]; rfl, HBW⟩
  · have hne : ((xs.length : Int) != (ys.length : Int)) = true := by simp; omega
    rw [show decide (xs = ys) = false by simp; rintro rfl; exact hl rfl]
    clear hl hV
    go_enter Tryd.func42, Tryd.ntmps42
    go_wp2_with fail
    go_ret
    exact ⟨rfl, Below.refl _ _⟩

def same (t u : Topo) : Bool := decide (t.n = u.n) && decide (t.ls = u.ls) && (if busyL t.ov = false ∧ busyL u.ov = false then true else decide (t.ov = u.ov))
theorem same_n {t u : Topo} (h : ¬ t.n = u.n) : same t u = false := by simp [same, h]
theorem same_ls {t u : Topo} (h : ¬ t.ls = u.ls) : same t u = false := by simp [same, h]
theorem same_free {t u : Topo} (h1 : t.n = u.n) (h2 : t.ls = u.ls) (h3 : busyL t.ov = false) (h4 : busyL u.ov = false) : same t u = true := by simp [same, h1, h2, h3, h4]
theorem same_ov {t u : Topo} (h1 : t.n = u.n) (h2 : t.ls = u.ls) (h3 : ¬ (busyL t.ov = false ∧ busyL u.ov = false)) : same t u = decide (t.ov = u.ov) := by simp only [same, h1, h2, if_neg h3, decide_true, Bool.true_and]
theorem same_busy {t u : Topo} (h : (busyL t.ov != busyL u.ov) = true) : same t u = false := by
  have h' : ¬ t.ov = u.ov := by intro e; rw [e] at h; simp at h
  have h2 : ¬ (busyL t.ov = false ∧ busyL u.ov = false) := by rintro ⟨a, b⟩; rw [a, b] at h; simp at h
  simp [same, if_neg h2, h']
theorem same_comm (t u : Topo) : same u t = same t u := by
  simp only [same, eq_comm (a := u.n), eq_comm (a := u.ls), eq_comm (a := u.ov), and_comm (a := busyL u.ov = false)]
theorem same_refl (t : Topo) : same t t = true := by simp [same]

theorem boxes (w : World) (x y z x' y' z' : Value) (T : TypeId) :
    ((w.alloc (.cells #[x, y, z] T)).alloc (.cells #[x', y', z'] T)).cell? ⟨w.heap.size, 0, none⟩ = some x ∧ ((w.alloc (.cells #[x, y, z] T)).alloc (.cells #[x', y', z'] T)).cell? ⟨w.heap.size, 1, none⟩ = some y ∧ ((w.alloc (.cells #[x, y, z] T)).alloc (.cells #[x', y', z'] T)).cell? ⟨w.heap.size, 2, none⟩ = some z ∧
    ((w.alloc (.cells #[x, y, z] T)).alloc (.cells #[x', y', z'] T)).cell? ⟨w.heap.size + 1, 0, none⟩ = some x' ∧ ((w.alloc (.cells #[x, y, z] T)).alloc (.cells #[x', y', z'] T)).cell? ⟨w.heap.size + 1, 1, none⟩ = some y' ∧ ((w.alloc (.cells #[x, y, z] T)).alloc (.cells #[x', y', z'] T)).cell? ⟨w.heap.size + 1, 2, none⟩ = some z' := by
  refine ⟨?_, ?_, ?_, ?_, ?_, ?_⟩ <;> simp

theorem slices_Contains_bool' (n : Nat) (A : Option Addr) (c : Nat) (xs : List Bool) (w : World) (hn : Hid (n = xs.length)) (hA : Rd w A (xs.map Value.bool)) (hm : n ≤ 4611686018427387904) :
    Calls Tryd.prog 43 #[.slice A n c, .bool true] w fun e w' => e = .returned (.bool (busyL xs)) ∧ w = w' := by
  obtain rfl := hn.out; exact slices_Contains_bool A c xs w hA hm
theorem slices_Equal_bool' (n m : Nat) (A B : Option Addr) (c d : Nat) (xs ys : List Bool) (w : World) (hn : Hid (n = xs.length)) (hm' : Hid (m = ys.length)) (hA : Rd w A (xs.map Value.bool)) (hB : Rd w B (ys.map Value.bool)) (hm : n ≤ 4611686018427387904) :
    Calls Tryd.prog 44 #[.slice A n c, .slice B m d] w fun e w' => e = .returned (.bool (decide (xs = ys))) ∧ Below w.heap.size w w' := by
  obtain rfl := hn.out; obtain rfl := hm'.out; exact slices_Equal_bool A B c d xs ys w hA hB hm
theorem slices_Equal_Link' (n m : Nat) (A B : Option Addr) (c d : Nat) (xs ys : List Lnk) (w : World) (hn : Hid (n = xs.length)) (hm' : Hid (m = ys.length)) (hA : RdL w A xs) (hB : RdL w B ys) (hm : n ≤ 4611686018427387904) :
    Calls Tryd.prog 42 #[.slice A n c, .slice B m d] w fun e w' => e = .returned (.bool (decide (xs = ys))) ∧ Below w.heap.size w w' := by
  obtain rfl := hn.out; obtain rfl := hm'.out; exact slices_Equal_Link A B c d xs ys w hA hB hm

set_option maxHeartbeats 1000000 in
theorem topology_Same (t u : Topo) (A1 A2 B1 B2 : Option Addr) (c1 c2 d1 d2 : Nat) (w : World) (hT : TAt w A1 A2 t) (hU : TAt w B1 B2 u) (hm : t.ov.length ≤ 4611686018427387904) (hm2 : u.ov.length ≤ 4611686018427387904) (hl : t.ls.length ≤ 4611686018427387904) :
    Calls Tryd.prog 15 #[.agg #[.int .i64 t.n, .slice A1 t.ov.length c1, .slice A2 t.ls.length c2], .agg #[.int .i64 u.n, .slice B1 u.ov.length d1, .slice B2 u.ls.length d2]] w fun e w' => e = .returned (.bool (same t u)) ∧ Below w.heap.size w w' := by
  obtain ⟨m1, e1⟩ : ∃ m, m = t.ov.length := ⟨_, rfl⟩
  obtain ⟨m2, e2⟩ : ∃ m, m = u.ov.length := ⟨_, rfl⟩
  obtain ⟨k1, e3⟩ : ∃ m, m = t.ls.length := ⟨_, rfl⟩
  obtain ⟨k2, e4⟩ : ∃ m, m = u.ls.length := ⟨_, rfl⟩
  rw [← e1, ← e2, ← e3, ← e4]
  rw [← e1] at hm; rw [← e2] at hm2; rw [← e3] at hl
  have E1 := Lib.hid e1; have E2 := Lib.hid e2; have E3 := Lib.hid e3; have E4 := Lib.hid e4
  clear e1 e2 e3 e4
  have HB : Below w.heap.size w ((w.alloc (.cells #[.int .i64 t.n, .slice A1 m1 c1, .slice A2 k1 c2] 25)).alloc (.cells #[.int .i64 u.n, .slice B1 m2 d1, .slice B2 k2 d2] 25)) := below_next (below_box w _) (below_box _ _)
  have HT := Lib.hid (hT.below HB); have HU := Lib.hid (hU.below HB)
  obtain ⟨p0, p1, p2, q0, q1, q2⟩ := boxes w (.int .i64 t.n) (.slice A1 m1 c1) (.slice A2 k1 c2) (.int .i64 u.n) (.slice B1 m2 d1) (.slice B2 k2 d2) 25
  clear hT hU
  by_cases hn : t.n = u.n
  · have hn' : (t.n != u.n) = false := by simp [hn]
    by_cases hq : t.ls = u.ls
    · have hq' : decide (t.ls = u.ls) = true := by simp [hq]
      cases hb1 : busyL t.ov with
      | true =>
        have HR := Lib.hid (same_ov hn hq (fun h => by rw [hb1] at h; cases h.1))
        clear hn hq
        go_enter Tryd.func15, Tryd.ntmps15
        go_wp2_with (first | (go_at_call 42; refine (slices_Equal_Link' _ _ _ _ _ _ t.ls u.ls _ E3 E4 HT.out.ls HU.out.ls hl).mono ?_; rintro e w1 ⟨rfl, hb⟩; replace p0 := cell_up hb p0; replace p1 := cell_up hb p1; replace p2 := cell_up hb p2; replace q0 := cell_up hb q0; replace q1 := cell_up hb q1; replace q2 := cell_up hb q2; replace HT := Lib.hid (HT.out.below hb); replace HU := Lib.hid (HU.out.below hb); replace HB := below_next HB hb; clear hb) | (go_at_call 43; first | (with_reducible refine (slices_Contains_bool' m1 _ _ t.ov _ E1 HT.out.ov hm).mono ?_; rintro e w1 ⟨rfl, rfl⟩) | (refine (slices_Contains_bool' m2 _ _ u.ov _ E2 HU.out.ov hm2).mono ?_; rintro e w1 ⟨rfl, rfl⟩)) | (go_at_call 44; refine (slices_Equal_bool' _ _ _ _ _ _ t.ov u.ov _ E1 E2 HT.out.ov HU.out.ov hm).mono ?_; rintro e w1 ⟨rfl, hb⟩; replace p0 := cell_up hb p0; replace p1 := cell_up hb p1; replace p2 := cell_up hb p2; replace q0 := cell_up hb q0; replace q1 := cell_up hb q1; replace q2 := cell_up hb q2; replace HT := Lib.hid (HT.out.below hb); replace HU := Lib.hid (HU.out.below hb); replace HB := below_next HB hb; clear hb))
        go_ret
        exact ⟨by rw [HR.out]; rfl, HB⟩
      | false =>
        cases hb2 : busyL u.ov with
        | true =>
          have HR := Lib.hid (same_ov hn hq (fun h => by rw [hb2] at h; cases h.2))
          clear hn hq
          go_enter Tryd.func15, Tryd.ntmps15
          go_wp2_with (first | (go_at_call 42; refine (slices_Equal_Link' _ _ _ _ _ _ t.ls u.ls _ E3 E4 HT.out.ls HU.out.ls hl).mono ?_; rintro e w1 ⟨rfl, hb⟩; replace p0 := cell_up hb p0; replace p1 := cell_up hb p1; replace p2 := cell_up hb p2; replace q0 := cell_up hb q0; replace q1 := cell_up hb q1; replace q2 := cell_up hb q2; replace HT := Lib.hid (HT.out.below hb); replace HU := Lib.hid (HU.out.below hb); replace HB := below_next HB hb; clear hb) | (go_at_call 43; first | (with_reducible refine (slices_Contains_bool' m1 _ _ t.ov _ E1 HT.out.ov hm).mono ?_; rintro e w1 ⟨rfl, rfl⟩) | (refine (slices_Contains_bool' m2 _ _ u.ov _ E2 HU.out.ov hm2).mono ?_; rintro e w1 ⟨rfl, rfl⟩)) | (go_at_call 44; refine (slices_Equal_bool' _ _ _ _ _ _ t.ov u.ov _ E1 E2 HT.out.ov HU.out.ov hm).mono ?_; rintro e w1 ⟨rfl, hb⟩; replace p0 := cell_up hb p0; replace p1 := cell_up hb p1; replace p2 := cell_up hb p2; replace q0 := cell_up hb q0; replace q1 := cell_up hb q1; replace q2 := cell_up hb q2; replace HT := Lib.hid (HT.out.below hb); replace HU := Lib.hid (HU.out.below hb); replace HB := below_next HB hb; clear hb))
          go_ret
          exact ⟨by rw [HR.out]; rfl, HB⟩
        | false =>
          have HR := Lib.hid (same_free hn hq hb1 hb2)
          clear hn hq
          go_enter Tryd.func15, Tryd.ntmps15
          go_wp2_with (first | (go_at_call 42; refine (slices_Equal_Link' _ _ _ _ _ _ t.ls u.ls _ E3 E4 HT.out.ls HU.out.ls hl).mono ?_; rintro e w1 ⟨rfl, hb⟩; replace p0 := cell_up hb p0; replace p1 := cell_up hb p1; replace p2 := cell_up hb p2; replace q0 := cell_up hb q0; replace q1 := cell_up hb q1; replace q2 := cell_up hb q2; replace HT := Lib.hid (HT.out.below hb); replace HU := Lib.hid (HU.out.below hb); replace HB := below_next HB hb; clear hb) | (go_at_call 43; first | (with_reducible refine (slices_Contains_bool' m1 _ _ t.ov _ E1 HT.out.ov hm).mono ?_; rintro e w1 ⟨rfl, rfl⟩) | (refine (slices_Contains_bool' m2 _ _ u.ov _ E2 HU.out.ov hm2).mono ?_; rintro e w1 ⟨rfl, rfl⟩)) | (go_at_call 44; refine (slices_Equal_bool' _ _ _ _ _ _ t.ov u.ov _ E1 E2 HT.out.ov HU.out.ov hm).mono ?_; rintro e w1 ⟨rfl, hb⟩; replace p0 := cell_up hb p0; replace p1 := cell_up hb p1; replace p2 := cell_up hb p2; replace q0 := cell_up hb q0; replace q1 := cell_up hb q1; replace q2 := cell_up hb q2; replace HT := Lib.hid (HT.out.below hb); replace HU := Lib.hid (HU.out.below hb); replace HB := below_next HB hb; clear hb))
          go_ret
          exact ⟨by rw [HR.out]; rfl, HB⟩
    · have hq' : decide (t.ls = u.ls) = false := by simp [hq]
      have HR := Lib.hid (same_ls hq)
      clear hn hq
      go_enter Tryd.func15, Tryd.ntmps15
      go_wp2_with (first | (go_at_call 42; refine (slices_Equal_Link' _ _ _ _ _ _ t.ls u.ls _ E3 E4 HT.out.ls HU.out.ls hl).mono ?_; rintro e w1 ⟨rfl, hb⟩; replace p0 := cell_up hb p0; replace p1 := cell_up hb p1; replace p2 := cell_up hb p2; replace q0 := cell_up hb q0; replace q1 := cell_up hb q1; replace q2 := cell_up hb q2; replace HT := Lib.hid (HT.out.below hb); replace HU := Lib.hid (HU.out.below hb); replace HB := below_next HB hb; clear hb) | (go_at_call 43; first | (with_reducible refine (slices_Contains_bool' m1 _ _ t.ov _ E1 HT.out.ov hm).mono ?_; rintro e w1 ⟨rfl, rfl⟩) | (refine (slices_Contains_bool' m2 _ _ u.ov _ E2 HU.out.ov hm2).mono ?_; rintro e w1 ⟨rfl, rfl⟩)) | (go_at_call 44; refine (slices_Equal_bool' _ _ _ _ _ _ t.ov u.ov _ E1 E2 HT.out.ov HU.out.ov hm).mono ?_; rintro e w1 ⟨rfl, hb⟩; replace p0 := cell_up hb p0; replace p1 := cell_up hb p1; replace p2 := cell_up hb p2; replace q0 := cell_up hb q0; replace q1 := cell_up hb q1; replace q2 := cell_up hb q2; replace HT := Lib.hid (HT.out.below hb); replace HU := Lib.hid (HU.out.below hb); replace HB := below_next HB hb; clear hb))
      go_ret
      exact ⟨by rw [HR.out]; rfl, HB⟩
  · have hn' : (t.n != u.n) = true := by simp [hn]
    have HR := Lib.hid (same_n hn)
    clear hn
    go_enter Tryd.func15, Tryd.ntmps15
    go_wp2_with (first | (go_at_call 42; refine (slices_Equal_Link' _ _ _ _ _ _ t.ls u.ls _ E3 E4 HT.out.ls HU.out.ls hl).mono ?_; rintro e w1 ⟨rfl, hb⟩; replace p0 := cell_up hb p0; replace p1 := cell_up hb p1; replace p2 := cell_up hb p2; replace q0 := cell_up hb q0; replace q1 := cell_up hb q1; replace q2 := cell_up hb q2; replace HT := Lib.hid (HT.out.below hb); replace HU := Lib.hid (HU.out.below hb); replace HB := below_next HB hb; clear hb) | (go_at_call 43; first | (with_reducible refine (slices_Contains_bool' m1 _ _ t.ov _ E1 HT.out.ov hm).mono ?_; rintro e w1 ⟨rfl, rfl⟩) | (refine (slices_Contains_bool' m2 _ _ u.ov _ E2 HU.out.ov hm2).mono ?_; rintro e w1 ⟨rfl, rfl⟩)) | (go_at_call 44; refine (slices_Equal_bool' _ _ _ _ _ _ t.ov u.ov _ E1 E2 HT.out.ov HU.out.ov hm).mono ?_; rintro e w1 ⟨rfl, hb⟩; replace p0 := cell_up hb p0; replace p1 := cell_up hb p1; replace p2 := cell_up hb p2; replace q0 := cell_up hb q0; replace q1 := cell_up hb q1; replace q2 := cell_up hb q2; replace HT := Lib.hid (HT.out.below hb); replace HU := Lib.hid (HU.out.below hb); replace HB := below_next HB hb; clear hb))
    go_ret
    exact ⟨by rw [HR.out]; rfl, HB⟩

end Go.Proofs.YthiegnkjcfdinaaDoor
