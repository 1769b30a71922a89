/-
  Contracts of topology.Same and waypointref09.Same, and of what they call: slices.Equal, slices.Index, slices.Contains, busy. Both return 'same t u'.
-/
import Derived.Test.YtpofbhaipeiegaaGreatDoorValid
import Derived.Laws.StructEq
import Derived.ChangeKeysEq
namespace Go.Proofs.YtpofbhaipeiegaaGreatDoor
open Go.RowKit Go.Sort

/-- The index of the first mark, counted from k; -1 if there is none. -/
def idxF (k : Int) : List Bool → Int
  | [] => -1
  | x :: r => if x = true then k else idxF (k + 1) r
def busyL (xs : List Bool) : Bool := xs.any id
theorem idxF_busy (xs : List Bool) : ∀ k : Int, 0 ≤ k → decide (0 ≤ idxF k xs) = busyL xs := by
  induction xs with
  | nil => intro k _; rfl
  | cons x r ih =>
    intro k hk
    cases x with
    | true => simp [idxF, busyL, hk]
    | false => rw [show idxF k (false :: r) = idxF (k + 1) r from rfl, ih (k + 1) (by omega)]; simp [busyL]

theorem bools_at {w : World} {A : Option Addr} {xs : List Bool} {k : Nat} (h : Rd w A (xs.map Value.bool)) (hk : k < xs.length) : ∃ b o x, A = some ⟨b, o, none⟩ ∧ xs.drop k = x :: xs.drop (k + 1) ∧ w.cell? ⟨b, o + k, none⟩ = some (.bool x) := by
  obtain ⟨b, o, hA, hc⟩ := h.at_ (k := k) (u := .bool xs[k]) (by simp [List.getElem?_eq_getElem hk])
  exact ⟨b, o, xs[k], hA, List.drop_eq_getElem_cons hk, hc⟩

theorem slices_Index_bool (A : Option Addr) (c : Nat) (xs : List Bool) (w : World) (hA : Rd w A (xs.map Value.bool)) (hm : xs.length ≤ 4611686018427387904) :
    Calls Tryz.prog 64 #[.slice A xs.length c, .bool true] w fun e w' => e = .returned (.int .i64 (idxF 0 xs)) ∧ w = w' := by
  obtain ⟨m, hM⟩ : ∃ m, m = xs.length := ⟨_, rfl⟩
  obtain ⟨V, hV⟩ : ∃ V, V = idxF 0 xs := ⟨_, rfl⟩
  rw [← hM, ← hV]
  rw [← hM] at hm
  have HA := Lib.hid hA; clear hA
  have HM := Lib.hid hM; clear hM
  have HV := Lib.hid hV; clear hV
  go_enter Tryz.func64, Tryz.ntmps64
  go_wp2_with fail
  go_loopw [8] (fun i wr => ∃ k : Nat, k ≤ m ∧ i = .int .i64 k ∧ Hid (V = idxF k (xs.drop k)) ∧ w = wr) (fun i _ => m - (intOf i).toNat)
  case atStart => exact ⟨0, Nat.zero_le _, rfl, Lib.hid HV.out, rfl⟩
  case round =>
    obtain ⟨k, hk, rfl, HR, rfl⟩ := hrel
    by_cases hlt : k < m
    · obtain ⟨b, o, x, rfl, hd, hc⟩ := bools_at HA.out (k := k) (by rw [← HM.out]; exact hlt)
      have HR2 := Lib.hid (HR.out.trans (congrArg (idxF k) hd)); clear HR hd
      cases x with
      | true =>
        have HR3 : Hid (V = (k : Int)) := Lib.hid HR2.out; clear HR2
        go_wp2_with fail
        go_ret
        exact ⟨by rw [HR3.out]; rfl, rfl⟩
      | false =>
        have HR3 : Hid (V = idxF ((k + 1 : Nat) : Int) (xs.drop (k + 1))) := Lib.hid HR2.out; clear HR2
        go_wp2_with fail
        go_roundw
        case rel => exact ⟨k + 1, by omega, by go_num, HR3, trivial⟩
        case measure => simp [intOf]; omega
    · obtain rfl : k = m := by omega
      have HR3 : Hid (V = -1) := Lib.hid (HR.out.trans (by rw [List.drop_of_length_le (by rw [← HM.out]; exact Nat.le_refl _)]; rfl)); clear HR
      go_wp2_with fail
      go_ret
      exact ⟨by rw [HR3.out]; rfl, rfl⟩

theorem slices_Contains_bool (A : Option Addr) (c : Nat) (xs : List Bool) (w : World) (hA : Rd w A (xs.map Value.bool)) (hm : xs.length ≤ 4611686018427387904) :
    Calls Tryz.prog 27 #[.slice A xs.length c, .bool true] w fun e w' => e = .returned (.bool (busyL xs)) ∧ w = w' := by
  have h := Lib.hid (idxF_busy xs 0 (Int.le_refl 0))
  go_enter Tryz.func27, Tryz.ntmps27
  go_wp2_with (go_at_call 64; refine (slices_Index_bool _ _ xs _ hA hm).mono ?_; rintro e w1 ⟨rfl, rfl⟩)
  go_ret
  exact ⟨by rw [← h.out]; rfl, rfl⟩

theorem ref09_busy (t : Topo) (A1 A2 : Option Addr) (c1 c2 : Nat) (w : World) (hT : TAt w A1 A2 t) (hm : t.ov.length ≤ 4611686018427387904) :
    Calls Tryz.prog 71 #[.agg #[.int .i64 t.n, .slice A1 t.ov.length c1, .slice A2 t.ls.length c2]] w fun e w' => e = .returned (.bool (busyL t.ov)) ∧ Below w.heap.size w w' := by
  have hT' := hT
  have hb0 := below_box w (.cells #[.int .i64 t.n, .slice A1 t.ov.length c1, .slice A2 t.ls.length c2] 31)
  have HT := hT.below hb0
  have HB := hb0
  have b0 := box0 w (.int .i64 t.n) (.slice A1 t.ov.length c1) (.slice A2 t.ls.length c2) 31
  have b1 := box1 w (.int .i64 t.n) (.slice A1 t.ov.length c1) (.slice A2 t.ls.length c2) 31
  have b2 := box2 w (.int .i64 t.n) (.slice A1 t.ov.length c1) (.slice A2 t.ls.length c2) 31
  clear hb0 hT
  have HT' := Lib.hid hT'; clear hT'
  obtain ⟨m, hM⟩ : ∃ m, m = t.ov.length := ⟨_, rfl⟩
  obtain ⟨V, hV⟩ : ∃ V, V = busyL t.ov := ⟨_, rfl⟩
  have HA := Lib.hid HT.ov; clear HT
  rw [← hM] at b1 hm HB b0 b2 HA
  rw [← hM, ← hV]
  have HM := Lib.hid hM; clear hM
  have HV := Lib.hid hV; clear hV
  go_enter Tryz.func71, Tryz.ntmps71
  go_wp2_with fail
  go_loopw [3] (fun i wr => ∃ k : Nat, k ≤ m ∧ i = .int .i64 k ∧ Hid (V = busyL (t.ov.drop k)) ∧ w.alloc (.cells #[.int .i64 t.n, .slice A1 m c1, .slice A2 t.ls.length c2] 31) = wr) (fun i _ => m - (intOf i).toNat)
  case atStart => exact ⟨0, Nat.zero_le _, rfl, Lib.hid HV.out, rfl⟩
  case round =>
    obtain ⟨k, hk, rfl, HR, rfl⟩ := hrel
    by_cases hlt : k < m
    · obtain ⟨b, o, x, rfl, hd, hc⟩ := bools_at HA.out (k := k) (by rw [← HM.out]; exact hlt)
      have HR2 := Lib.hid (HR.out.trans (congrArg busyL hd)); clear HR hd
      cases x with
      | true =>
        have HR3 : Hid (V = true) := Lib.hid HR2.out; clear HR2
        go_wp2_with fail
        go_ret
        exact ⟨by rw [HR3.out]; rfl, HB⟩
      | false =>
        have HR3 : Hid (V = busyL (t.ov.drop (k + 1))) := Lib.hid HR2.out; clear HR2
        go_wp2_with fail
        go_roundw
        case rel => exact ⟨k + 1, by omega, by go_num, HR3, trivial⟩
        case measure => simp [intOf]; omega
    · obtain rfl : k = m := by omega
      have HR3 : Hid (V = false) := Lib.hid (HR.out.trans (by rw [List.drop_of_length_le (by rw [← HM.out]; exact Nat.le_refl _)]; rfl)); clear HR
      go_wp2_with fail
      go_ret
      exact ⟨by rw [HR3.out]; rfl, HB⟩

theorem part_cost (w : World) (a b c d e f g : Value) : (part 62 #[a, b, c, d, e, f, g] 2).run Tryz.prog w = .ok (.agg #[c, d]) w := by kernel_rfl
theorem part_i (w : World) (xs : Array Value) (i : Nat) (v : Value) (h : xs[i]? = some v) : (part 3 xs i).run Tryz.prog w = .ok v w := run_part_plain w (by kernel_rfl) h
theorem eq_i (d : Nat) (w : World) (a b : Int) : (Op.equalIn (d + 1) 3 (.int .i64 a) (.int .i64 b)).run Tryz.prog w = .ok (a == b) w := run_equalIn_int w d 3 .i64 .i64 a b Tryz.underlying3
theorem eq_cost (d : Nat) (w : World) (a b c e : Int) : (Op.equalIn (d + 2) 62 (.agg #[.int .i64 a, .int .i64 b]) (.agg #[.int .i64 c, .int .i64 e])).run Tryz.prog w = .ok (a == c && b == e) w := by
  obtain ⟨i, hi⟩ := info_of_underlying (P := Tryz.prog) Tryz.underlying3
  rw [run_equalIn_array w (d + 1) _ _ Tryz.underlying62 hi, show Tryz.prog.cellsOf 3 = 1 by kernel_rfl]
  simp only [List.range_succ, List.range_zero, List.nil_append, List.cons_append, Op.eqItems, Sem.run_bind, Sem.run_ite, Sem.run_pure]
  rw [part_i w _ _ (.int .i64 a) rfl]; simp only [Result.andThen_ok]
  rw [part_i w _ _ (.int .i64 c) rfl]; simp only [Result.andThen_ok, eq_i]
  rw [part_i w _ _ (.int .i64 b) rfl]; simp only [Result.andThen_ok]
  rw [part_i w _ _ (.int .i64 e) rfl]; simp only [Result.andThen_ok, eq_i]
  cases a == c <;> cases b == e <;> rfl
theorem eqF_int {d : Nat} {w : World} {xs ys : Array Value} {f : Field} {fs : List Field} {a b : Int} {r : Bool} (hn : f.name ≠ "_") (ht : f.type = 3) (hx : xs[f.offset]? = some (.int .i64 a)) (hy : ys[f.offset]? = some (.int .i64 b))
    (h : (Op.eqFields (d + 1) xs ys fs).run Tryz.prog w = .ok r w) : (Op.eqFields (d + 1) xs ys (f :: fs)).run Tryz.prog w = .ok (a == b && r) w := by
  simp only [Op.eqFields, if_pos hn, Sem.run_bind, Sem.run_ite, Sem.run_pure, ht, part_i w _ _ _ hx, part_i w _ _ _ hy, Result.andThen_ok, eq_i, h]
  cases a == b <;> rfl
theorem eqF_cost {d : Nat} {w : World} {xs ys : Array Value} {f : Field} {fs : List Field} {a b c e : Int} {r : Bool} (hn : f.name ≠ "_") (ht : f.type = 62) (hx : (part 62 xs f.offset).run Tryz.prog w = .ok (.agg #[.int .i64 a, .int .i64 b]) w) (hy : (part 62 ys f.offset).run Tryz.prog w = .ok (.agg #[.int .i64 c, .int .i64 e]) w)
    (h : (Op.eqFields (d + 2) xs ys fs).run Tryz.prog w = .ok r w) : (Op.eqFields (d + 2) xs ys (f :: fs)).run Tryz.prog w = .ok ((a == c && b == e) && r) w := by
  simp only [Op.eqFields, if_pos hn, Sem.run_bind, Sem.run_ite, Sem.run_pure, ht, hx, hy, Result.andThen_ok, eq_cost, h]
  cases a == c && b == e <;> rfl
theorem link_ext {x y : Lnk} : (x = y) ↔ (x.a = y.a ∧ x.b = y.b ∧ (x.c0 = y.c0 ∧ x.c1 = y.c1) ∧ x.cap = y.cap ∧ x.dl = y.dl ∧ x.g = y.g) := by
  cases x; cases y; simp [and_assoc]
theorem link_dec (x y : Lnk) : decide (x = y) = (x.a == y.a && (x.b == y.b && ((x.c0 == y.c0 && x.c1 == y.c1) && (x.cap == y.cap && (x.dl == y.dl && (x.g == y.g && true)))))) := by
  rw [Bool.eq_iff_iff, decide_eq_true_eq, link_ext]; simp [and_assoc]
theorem link_eq (x y : Lnk) (w : World) : (Op.equalIn 10000 64 (.agg #[.int .i64 x.a, .int .i64 x.b, .int .i64 x.c0, .int .i64 x.c1, .int .i64 x.cap, .int .i64 x.dl, .int .i64 x.g]) (.agg #[.int .i64 y.a, .int .i64 y.b, .int .i64 y.c0, .int .i64 y.c1, .int .i64 y.cap, .int .i64 y.dl, .int .i64 y.g])).run Tryz.prog w = .ok (decide (x = y)) w := by
  rw [run_equalIn_struct w 9999 64 _ _ (by kernel_rfl) (by kernel_rfl), link_dec]
  simp only [Program.fieldsOf, Tryz.underlying64]
  exact eqF_int (by decide) rfl rfl rfl (eqF_int (by decide) rfl rfl rfl (eqF_cost (by decide) rfl (part_cost ..) (part_cost ..) (eqF_int (by decide) rfl rfl rfl (eqF_int (by decide) rfl rfl rfl (eqF_int (by decide) rfl rfl rfl (by simp [Op.eqFields]))))))
theorem link_neq (x y : Lnk) (w : World) : (binOp .neq 64 (.agg #[.int .i64 x.a, .int .i64 x.b, .int .i64 x.c0, .int .i64 x.c1, .int .i64 x.cap, .int .i64 x.dl, .int .i64 x.g]) (.agg #[.int .i64 y.a, .int .i64 y.b, .int .i64 y.c0, .int .i64 y.c1, .int .i64 y.cap, .int .i64 y.dl, .int .i64 y.g])).run Tryz.prog w = .ok (.bool (!decide (x = y))) w := by
  rw [run_neq_struct, link_eq]; rfl
/-- A link's seven cells, as a value. -/
def cellsL (x : Lnk) : Array Value := #[.int .i64 x.a, .int .i64 x.b, .int .i64 x.c0, .int .i64 x.c1, .int .i64 x.cap, .int .i64 x.dl, .int .i64 x.g]
theorem link_neq_f {x y : Lnk} (h : x = y) (w : World) : (binOp .neq 64 (.agg #[.int .i64 x.a, .int .i64 x.b, .int .i64 x.c0, .int .i64 x.c1, .int .i64 x.cap, .int .i64 x.dl, .int .i64 x.g]) (.agg #[.int .i64 y.a, .int .i64 y.b, .int .i64 y.c0, .int .i64 y.c1, .int .i64 y.cap, .int .i64 y.dl, .int .i64 y.g])).run Tryz.prog w = .ok (.bool false) w := by
  rw [link_neq]; simp [h]
theorem link_neq_t {x y : Lnk} (h : ¬ x = y) (w : World) : (binOp .neq 64 (.agg #[.int .i64 x.a, .int .i64 x.b, .int .i64 x.c0, .int .i64 x.c1, .int .i64 x.cap, .int .i64 x.dl, .int .i64 x.g]) (.agg #[.int .i64 y.a, .int .i64 y.b, .int .i64 y.c0, .int .i64 y.c1, .int .i64 y.cap, .int .i64 y.dl, .int .i64 y.g])).run Tryz.prog w = .ok (.bool true) w := by
  rw [link_neq]; simp [h]
attribute [-go_sem] run_neq_struct run_equalIn_agg

theorem links_at {w : World} {A : Option Addr} {ls : List Lnk} {k : Nat} (h : RdL w A ls) (hk : k < ls.length) : ∃ b o l, A = some ⟨b, o, none⟩ ∧ ls.drop k = l :: ls.drop (k + 1) ∧ LAt w b (o + k * 7) l := by
  obtain ⟨b, o, l, hA, hl, hc⟩ := h.at_ hk
  rw [List.getElem?_eq_getElem hk] at hl
  injection hl with hl
  exact ⟨b, o, l, hA, by rw [← hl]; exact List.drop_eq_getElem_cons hk, hc⟩

def same (t u : Topo) : Bool := decide (t.n = u.n) && decide (t.ls = u.ls) && (if busyL t.ov = false ∧ busyL u.ov = false then true else decide (t.ov = u.ov))
theorem same_n {t u : Topo} (h : ¬ t.n = u.n) : same t u = false := by simp [same, h]
theorem same_ls {t u : Topo} (h : ¬ t.ls = u.ls) : same t u = false := by simp [same, h]
theorem same_free {t u : Topo} (h1 : t.n = u.n) (h2 : t.ls = u.ls) (h3 : busyL t.ov = false) (h4 : busyL u.ov = false) : same t u = true := by simp [same, h1, h2, h3, h4]
theorem same_ov {t u : Topo} (h1 : t.n = u.n) (h2 : t.ls = u.ls) (h3 : ¬ (busyL t.ov = false ∧ busyL u.ov = false)) : same t u = decide (t.ov = u.ov) := by simp only [same, h1, h2, if_neg h3, decide_true, Bool.true_and]
theorem same_busy {t u : Topo} (h : (busyL t.ov != busyL u.ov) = true) : same t u = false := by
  have h' : ¬ t.ov = u.ov := by intro e; rw [e] at h; simp at h
  have h2 : ¬ (busyL t.ov = false ∧ busyL u.ov = false) := by rintro ⟨a, b⟩; rw [a, b] at h; simp at h
  simp [same, if_neg h2, h']
theorem same_comm (t u : Topo) : same u t = same t u := by
  simp only [same, eq_comm (a := u.n), eq_comm (a := u.ls), eq_comm (a := u.ov), and_comm (a := busyL u.ov = false)]
theorem same_refl (t : Topo) : same t t = true := by simp [same]

theorem boxes (w : World) (x y z x' y' z' : Value) (T : TypeId) :
    ((w.alloc (.cells #[x, y, z] T)).alloc (.cells #[x', y', z'] T)).cell? ⟨w.heap.size, 0, none⟩ = some x ∧ ((w.alloc (.cells #[x, y, z] T)).alloc (.cells #[x', y', z'] T)).cell? ⟨w.heap.size, 1, none⟩ = some y ∧ ((w.alloc (.cells #[x, y, z] T)).alloc (.cells #[x', y', z'] T)).cell? ⟨w.heap.size, 2, none⟩ = some z ∧
    ((w.alloc (.cells #[x, y, z] T)).alloc (.cells #[x', y', z'] T)).cell? ⟨w.heap.size + 1, 0, none⟩ = some x' ∧ ((w.alloc (.cells #[x, y, z] T)).alloc (.cells #[x', y', z'] T)).cell? ⟨w.heap.size + 1, 1, none⟩ = some y' ∧ ((w.alloc (.cells #[x, y, z] T)).alloc (.cells #[x', y', z'] T)).cell? ⟨w.heap.size + 1, 2, none⟩ = some z' := by
  refine ⟨?_, ?_, ?_, ?_, ?_, ?_⟩ <;> simp

theorem slices_Contains_bool' (n : Nat) (A : Option Addr) (c : Nat) (xs : List Bool) (w : World) (hn : Hid (n = xs.length)) (hA : Rd w A (xs.map Value.bool)) (hm : n ≤ 4611686018427387904) :
    Calls Tryz.prog 27 #[.slice A n c, .bool true] w fun e w' => e = .returned (.bool (busyL xs)) ∧ w = w' := by
  obtain rfl := hn.out; exact slices_Contains_bool A c xs w hA hm
end Go.Proofs.YtpofbhaipeiegaaGreatDoor
