/-
  What the examples of the document mean (by evaluation), and how many words a line has.
  waypointlaw15.awake: the examples of the document hold.
  The first error of a text is that of its lines up to its line (plain), and the shape of a configuration's value.
-/
import Derived.Test.YtpofbhaipeiegaaGreatDoorCfgPa
import Derived.Test.YtpofbhaipeiegaaGreatDoorCfgPb
import Derived.Lib.Join
namespace Go.Proofs.YtpofbhaipeiegaaGreatDoor
set_option linter.unusedSimpArgs false
set_option linter.unusedVariables false
open Go.RowKit Go.Shelf Go.Sort

theorem wordsK_len : ∀ (l u : List UInt8), (wordsK u l).length ≤ l.length + (if u = [] then 0 else 1) ∧ ∀ x ∈ wordsK u l, x.length ≤ u.length + l.length
  | [], u => by
    unfold wordsK
    split
    · simp
    · simp
  | c :: r, u => by
    have h1 := wordsK_len r []
    have h2 := wordsK_len r (u ++ [c])
    unfold wordsK
    split
    · constructor
      · have := h1.1
        simp only [if_true] at this
        simp only [List.length_append, List.length_cons]
        by_cases hu : u = [] <;> by_cases hs : spcB c = true <;> simp only [hu, hs, if_true, if_false, Bool.false_eq_true, List.length_nil, List.length_cons] <;> omega
      · intro x hx
        rcases List.mem_append.1 hx with hx | hx
        · rcases List.mem_append.1 hx with hx | hx
          · split at hx
            · cases hx
            · simp at hx; subst hx; omega
          · split at hx
            · cases hx
            · simp at hx; subst hx; simp; omega
        · have := h1.2 x hx
          simp at this ⊢; omega
    · constructor
      · have := h2.1
        rw [if_neg (by simp)] at this
        simp only [List.length_cons]
        split <;> omega
      · intro x hx
        have := h2.2 x hx
        simp at this ⊢; omega
theorem wordsS_len (l : List UInt8) : (wordsS l).length ≤ l.length ∧ ∀ x ∈ wordsS l, x.length ≤ l.length := by
  have h := wordsK_len (cutA 35 l).1 []
  have h2 := cutA_len 35 l
  simp only [if_true, List.length_nil] at h
  exact ⟨by unfold wordsS; omega, fun x hx => by have := h.2 x hx; omega⟩
theorem words_small {s : List UInt8} (hs : s.length ≤ 9999) : ∀ l ∈ splitK 10 [] s, (wordsS l).length ≤ 10000 ∧ ∀ x ∈ wordsS l, x.length ≤ 10000 := fun l hl => by
  have h1 := splitK_mem hl
  have h2 := wordsS_len l
  exact ⟨by omega, fun x hx => by have := h2.2 x hx; omega⟩

def exS : List UInt8 := [110, 111, 100, 101, 32, 97, 10, 110, 111, 100, 101, 32, 98, 10, 108, 101, 116, 32, 120, 32, 61, 32, 50, 32, 42, 32, 40, 51, 32, 43, 32, 49, 41, 10, 108, 105, 110, 107, 32, 108, 32, 102, 114, 111, 109, 32, 97, 32, 116, 111, 32, 98, 32, 99, 111, 115, 116, 32, 120, 32, 45, 32, 49, 10]
def exA : List UInt8 := [108, 105, 110, 107, 32, 108, 32, 102, 114, 111, 109, 32, 97, 32, 116, 111, 32, 99]
def exB : List UInt8 := [110, 111, 100, 101, 32, 108]
def exC : List UInt8 := [108, 105, 110, 107, 32, 109, 32, 102, 114, 111, 109, 32, 97, 32, 116, 111, 32, 120]
def exD : List UInt8 := [116, 105, 109, 101, 114, 32, 104, 111, 108, 100, 32, 61, 32, 48]
def exCf : Cf := { c0 with names := [[97], [98]], lnames := [[108]], links := [⟨0, 1, 7, 7, 0, 1, 0⟩], ov := [false, false], sym := [([97], (1, 0)), ([98], (1, 1)), ([120], (3, 8)), ([108], (2, 0))] }
set_option maxRecDepth 100000 in
theorem exS_ok : parseC exS = .ok exCf := by kernel_rfl
theorem exA_no : parseC (exS ++ exA) = .error (5, 8) := by kernel_rfl
theorem exB_no : parseC (exS ++ exB) = .error (5, 9) := by kernel_rfl
theorem exC_no : parseC (exS ++ exC) = .error (5, 1) := by kernel_rfl
theorem exD_no : parseC (exS ++ exD) = .error (5, 2) := by kernel_rfl

end Go.Proofs.YtpofbhaipeiegaaGreatDoor
namespace Go.Proofs.YtpofbhaipeiegaaGreatDoor
set_option linter.unusedSimpArgs false
set_option linter.unusedVariables false
open Go.RowKit Go.Shelf Go.Sort

theorem str_app (a b : List UInt8) : (⟨a.toArray⟩ : ByteArray) ++ ⟨b.toArray⟩ = ⟨(a ++ b).toArray⟩ := by
  apply ByteArray.ext
  simp [ByteArray.data_append]
theorem config_ParseS (s : List UInt8) (hs : s.length ≤ 9999) (w : World) (hE : Errs w) (ht : Tab w.heap.size w) : Calls Tryz.prog 11 #[.string ⟨s.toArray⟩] w (RetCf w (parseC s)) :=
  config_Parse s (by omega) (words_small hs) w hE ht
set_option maxRecDepth 100000 in
set_option maxHeartbeats 4000000 in
theorem law15_fails (more : List UInt8) (want : Int) (hp : parseC (exS ++ more) = .error (5, want)) (bb : Nat) (w : World) (hb : Boxed w bb 9 (.string ⟨exS.toArray⟩)) (hl : more.length ≤ 1000) (hE : Errs w) (ht : Tab w.heap.size w) :
    Calls Tryz.prog 22 #[.string ⟨more.toArray⟩, .int .i64 want, .pointer (some ⟨bb, 0, none⟩)] w fun e w' => e = .returned (.bool true) ∧ Below w.heap.size w w' := by
  have q0 := hb.cell
  have E := str_app exS more
  have hsl : exS.length + more.length ≤ 1064 := by rw [show exS.length = 64 from rfl]; omega
  have HC := Lib.hid (config_ParseS (exS ++ more) (by rw [List.length_append]; omega) w hE ht)
  rw [hp] at HC
  generalize exS ++ more = s2 at *
  generalize exS = s1 at *
  clear hp hE ht hl
  go_enter Tryz.func22, Tryz.ntmps22
  go_wp2_with (go_at_call 11; refine HC.out.mono ?_; rintro e w1 ⟨rfl, hb1⟩; have HB1 := Lib.hid hb1; clear hb1; simp only [zeroK])
  go_ret
  exact ⟨rfl, below_next HB1.out (below_box _ _)⟩
theorem confV_ex (r : Rws) : confV r exCf = .agg #[.slice r.aN 2 r.cN, .slice r.aL 1 r.cL, .int .i64 2, .slice none 0 0, .slice r.aK 1 r.cK, .slice r.aP 0 r.cP, .slice r.aQ 0 r.cQ, .slice r.aD 0 r.cD, .int .i64 10, .int .i64 35, .int .i64 5, .int .i64 20, .int .i64 20] := by
  simp [confV, exCf, c0]
theorem ex_cells {B : Nat} {r : Rws} {W : World} (h : Rows B (rowsOf r exCf) W) : ∃ gk gl, r.aK = some ⟨gk, 0, none⟩ ∧ r.aL = some ⟨gl, 0, none⟩ ∧ gk < W.heap.size ∧ gl < W.heap.size ∧ 1 ≤ r.cK ∧ 1 ≤ r.cL ∧ W.cell? ⟨gk, 2, none⟩ = some (.int .i64 7) ∧ W.cell? ⟨gk, 3, none⟩ = some (.int .i64 7) ∧ W.cell? ⟨gl, 0, none⟩ = some (.string ⟨#[108]⟩) := by
  have hk := h.own ⟨64, 7, r.aK, r.cK, exCf.links.length, exCf.links.flatMap lkV⟩ (by simp [rowsOf])
  have hl := h.own ⟨9, 1, r.aL, r.cL, exCf.lnames.length, exCf.lnames.map strW⟩ (by simp [rowsOf])
  obtain ⟨gl, hl1, hl2, hl3, hl4⟩ := own_form (n := 0) hl
  rcases hk.2 with ⟨e, _⟩ | ⟨g, cap, cur, e, _, _, hle, _⟩
  · injection e with _ e _; cases e
  · injection e with e _ e2
    have hk' : W.ownsRow B 64 7 (.slice r.aK exCf.links.length r.cK) exCf.links.length (exCf.links.flatMap lkV) := hk
    rw [show r.aK = some ⟨g, 0, none⟩ from e] at hk'
    have hl' : W.ownsRow B 9 1 (.slice r.aL exCf.lnames.length r.cL) exCf.lnames.length (exCf.lnames.map strW) := hl
    rw [show r.aL = some ⟨gl, 0, none⟩ from hl1] at hl'
    refine ⟨g, gl, e, hl1, (hk'.lt g rfl).2, hl4, ?_, hl2, ?_, ?_, ?_⟩
    · have : (1 : Nat) ≤ cap := hle
      have e3 : r.cK = cap := e2
      omega
    · exact (hk'.cellAt 2 (by decide)).trans rfl
    · exact (hk'.cellAt 3 (by decide)).trans rfl
    · exact (hl'.cellAt 0 (by decide)).trans rfl
theorem neq_two77 (w : World) : (binOp .neq 62 (.agg #[.int .i64 7, .int .i64 7]) (.agg #[.int .i64 7, .int .i64 7])).run Tryz.prog w = .ok (.bool false) w := by kernel_rfl
structure AW (w W : World) : Prop where
  b : Below w.heap.size w W
  x : Boxed W w.heap.size 9 (.string ⟨exS.toArray⟩)
theorem AW.next {w W W' : World} (h : AW w W) (hb : Below W.heap.size W W') : AW w W' := ⟨below_next h.b hb, (hb.block _ h.x.lt).trans h.x⟩
set_option maxRecDepth 100000 in
set_option maxHeartbeats 4000000 in
theorem law15_awake (w : World) (hE : Errs w) (ht : Tab w.heap.size w) : Calls Tryz.prog 8 #[] w fun e w' => e = .returned (.bool true) ∧ Below w.heap.size w w' := by
  have hmf : ∀ (fn : Fn) (first cap : Array Value) (w : World), (Instr.makeFunc fn first cap).run Tryz.prog w = .ok (.func fn first cap) w := fun _ _ _ _ => rfl
  have hne := neq_two77
  have hb0 := below_box w (.cells #[.string ⟨exS.toArray⟩] 9)
  have HBX : Hid (Boxed (w.alloc (.cells #[.string ⟨exS.toArray⟩] 9)) w.heap.size 9 (.string ⟨exS.toArray⟩)) := Lib.hid (Boxed.new w _ _)
  have HB0 := Lib.hid hb0
  have HE := Lib.hid hE
  have HT := Lib.hid ht
  have HC := Lib.hid (config_ParseS exS (by decide) _ (hE.up hb0) (tab_up ht hb0 hb0.size))
  rw [exS_ok] at HC
  have HA := Lib.hid (fun bb w hb hE ht => law15_fails exA 8 exA_no bb w hb (by decide) hE ht)
  have HB := Lib.hid (fun bb w hb hE ht => law15_fails exB 9 exB_no bb w hb (by decide) hE ht)
  have HCC := Lib.hid (fun bb w hb hE ht => law15_fails exC 1 exC_no bb w hb (by decide) hE ht)
  have HD := Lib.hid (fun bb w hb hE ht => law15_fails exD 2 exD_no bb w hb (by decide) hE ht)
  clear hE ht hb0
  have HAW0 : Hid (AW w (w.alloc (.cells #[.string ⟨exS.toArray⟩] 9))) := Lib.hid ⟨HB0.out, HBX.out⟩
  clear HBX HB0
  unfold exS at HC
  unfold exA at HA
  unfold exB at HB
  unfold exC at HCC
  unfold exD at HD
  have HAW1 : Hid (∀ W', Below (w.alloc (.cells #[.string ⟨exS.toArray⟩] 9)).heap.size (w.alloc (.cells #[.string ⟨exS.toArray⟩] 9)) W' → AW w W') := Lib.hid fun W' h => HAW0.out.next h
  clear HAW0
  unfold exS at HAW1
  have HAWF : Hid (∀ X, AW w X → ∀ W', Below X.heap.size X W' → AW w W') := Lib.hid fun X h W' hb => h.next hb
  go_enter Tryz.func8, Tryz.ntmps8
  go_wp2_with (first | (go_at_call 11; refine HC.out.mono ?_; rintro e w1 ⟨⟨r, rfl, hrow, _⟩, hb1⟩; have HAW := Lib.hid (HAW1.out _ hb1); obtain ⟨gk, gl, hk, hl, hgk, hgl, hck, hcl, k2, k3, l0⟩ := ex_cells hrow; have hkn : gk ≠ w1.heap.size := Nat.ne_of_lt hgk; have hln : gl ≠ w1.heap.size := Nat.ne_of_lt hgl; rw [confV_ex, hk, hl]; clear hb1 hrow) | (go_at_call 22; with_reducible refine (HA.out _ _ (HAW.out.next (below_box w1 _)).x (HE.out.up (HAW.out.next (below_box w1 _)).b) (tab_up HT.out (HAW.out.next (below_box w1 _)).b (HAW.out.next (below_box w1 _)).b.size)).mono ?_; rintro e w5 ⟨rfl, hb5⟩; replace HAW := Lib.hid ((HAW.out.next (below_box w1 _)).next hb5); clear hb5) | (go_at_call 22; with_reducible refine (HB.out _ _ HAW.out.x (HE.out.up HAW.out.b) (tab_up HT.out HAW.out.b HAW.out.b.size)).mono ?_; rintro e w5 ⟨rfl, hb5⟩; replace HAW := Lib.hid (HAW.out.next hb5); clear hb5) | (go_at_call 22; with_reducible refine (HCC.out _ _ HAW.out.x (HE.out.up HAW.out.b) (tab_up HT.out HAW.out.b HAW.out.b.size)).mono ?_; rintro e w5 ⟨rfl, hb5⟩; replace HAW := Lib.hid (HAW.out.next hb5); clear hb5) | (go_at_call 22; with_reducible refine (HD.out _ _ HAW.out.x (HE.out.up HAW.out.b) (tab_up HT.out HAW.out.b HAW.out.b.size)).mono ?_; rintro e w5 ⟨rfl, hb5⟩; replace HAW := Lib.hid (HAW.out.next hb5); clear hb5))
  go_ret
  exact ⟨rfl, HAW.out.b⟩

end Go.Proofs.YtpofbhaipeiegaaGreatDoor
namespace Go.Proofs.YtpofbhaipeiegaaGreatDoor
set_option linter.unusedSimpArgs false
set_option linter.unusedVariables false
open Go.RowKit Go.Shelf Go.Sort

theorem parseL_err : ∀ (ps : List (List UInt8)) (k : Nat) (c : Cf) (m : Nat) (x : Int), parseL ps k c = .error (m, x) → k < m ∧ m ≤ k + ps.length ∧ ∀ rest, parseL (ps.take (m - k) ++ rest) k c = .error (m, x)
  | [], k, c, m, x, h => by cases h
  | l :: r, k, c, m, x, h => by
    have one : m = k + 1 → (l :: r).take (m - k) = [l] := fun e => by rw [e, Nat.add_sub_cancel_left]; rfl
    by_cases hw : wordsS l = []
    · rw [parseL_skip hw] at h
      obtain ⟨h1, h2, h3⟩ := parseL_err r (k + 1) c m x h
      refine ⟨by omega, by simp; omega, fun rest => ?_⟩
      rw [show m - k = (m - (k + 1)) + 1 by omega, List.take_succ_cons, List.cons_append, parseL_skip hw]
      exact h3 rest
    · cases hd : lineS true c (wordsS l) with
      | error e =>
        rw [parseL_e1 hw hd] at h
        injection h with h
        injection h with h1 h2
        subst h2
        refine ⟨by omega, by simp; omega, fun rest => ?_⟩
        rw [one h1.symm, List.singleton_append, parseL_e1 hw hd, h1]
      | ok c1 =>
        cases hn : lineS false c (wordsS l) with
        | error e =>
          rw [parseL_e2 hw hd hn] at h
          injection h with h
          injection h with h1 h2
          subst h2
          refine ⟨by omega, by simp; omega, fun rest => ?_⟩
          rw [one h1.symm, List.singleton_append, parseL_e2 hw hd hn, h1]
        | ok c2 =>
          rw [parseL_go hw hd hn] at h
          obtain ⟨h1, h2, h3⟩ := parseL_err r (k + 1) c2 m x h
          refine ⟨by omega, by simp; omega, fun rest => ?_⟩
          rw [show m - k = (m - (k + 1)) + 1 by omega, List.take_succ_cons, List.cons_append, parseL_go hw hd hn]
          exact h3 rest
theorem join_cons2 (c : UInt8) (x y : List UInt8) (r : List (List UInt8)) : Lib.join (x :: y :: r) [c] = x ++ c :: Lib.join (y :: r) [c] := by
  rw [Lib.join_cons, Lib.join_cons]
  simp [Lib.joinTail]
theorem splitK_no (c : UInt8) : ∀ (n : Nat) (s : List UInt8), s.length ≤ n → ∀ l ∈ splitK c [] s, c ∉ l := by
  intro n
  induction n with
  | zero =>
    intro s hs l hl
    obtain rfl : s = [] := List.eq_nil_of_length_eq_zero (by omega)
    simp [splitK] at hl
    subst hl; simp
  | succ n ih =>
    intro s hs l hl
    by_cases hc : c ∈ s
    · obtain ⟨x, y, rfl, hx⟩ := indexByte_some hc
      rw [splitK_hit hx, List.append_nil] at hl
      rcases List.mem_cons.1 hl with rfl | hl
      · exact hx
      · exact ih y (by simp at hs; omega) l hl
    · rw [splitK_miss hc] at hl
      simp at hl; subst hl; exact hc
theorem split_join (c : UInt8) (more : List UInt8) : ∀ (ls : List (List UInt8)), ls ≠ [] → (∀ l ∈ ls, c ∉ l) → splitK c [] (Lib.join ls [c] ++ c :: more) = ls ++ splitK c [] more
  | [], h, _ => absurd rfl h
  | [x], _, h => by
    rw [Lib.join_one, splitK_hit (h x (by simp)), List.append_nil]
    rfl
  | x :: y :: r, _, h => by
    have ih := split_join c more (y :: r) (by simp) (fun l hl => h l (by simp [hl]))
    rw [join_cons2, List.append_assoc, List.cons_append, splitK_hit (h x (by simp)), ih, List.append_nil]
    rfl
theorem join_take_len (c : UInt8) : ∀ (n : Nat) (s : List UInt8), s.length ≤ n → ∀ k, (Lib.join ((splitK c [] s).take k) [c]).length ≤ s.length := by
  intro n
  induction n with
  | zero =>
    intro s hs k
    obtain rfl : s = [] := List.eq_nil_of_length_eq_zero (by omega)
    cases k with
    | zero => simp [Lib.join_nil]
    | succ k => simp [splitK, Lib.join_one]
  | succ n ih =>
    intro s hs k
    cases k with
    | zero => simp [Lib.join_nil]
    | succ k =>
      by_cases hc : c ∈ s
      · obtain ⟨x, y, rfl, hx⟩ := indexByte_some hc
        rw [splitK_hit hx, List.append_nil, List.take_succ_cons]
        have h1 := ih y (by simp at hs; omega) k
        cases ht : (splitK c [] y).take k with
        | nil => rw [Lib.join_one]; simp
        | cons a b =>
          rw [join_cons2, List.length_append, List.length_cons]
          rw [ht] at h1
          simp; omega
      · rw [splitK_miss hc, List.take_succ_cons, List.take_nil, Lib.join_one]
        exact Nat.le_refl _
/-- The error of a text is that of its lines up to its line. -/
theorem first_plain {s more : List UInt8} {n : Nat} {x : Int} (h : parseC s = .error (n + 1, x)) : n + 1 ≤ (splitK 10 [] s).length ∧ parseC (Lib.join ((splitK 10 [] s).take (n + 1)) [10] ++ 10 :: more) = .error (n + 1, x) := by
  have hp : parseL (splitK 10 [] s) 0 c0 = .error (n + 1, x) := by
    rw [parseC_eq] at h
    unfold finC at h
    split at h
    · exact h ▸ (by assumption)
    · split at h
      · injection h with h; injection h with h _; omega
      · cases h
  obtain ⟨h1, h2, h3⟩ := parseL_err _ 0 c0 _ _ hp
  refine ⟨by omega, ?_⟩
  have hne : (splitK 10 [] s).take (n + 1) ≠ [] := by
    cases hs : splitK 10 [] s with
    | nil => exact absurd hs (splitK_ne _ _ _)
    | cons a b => simp
  rw [parseC_eq, split_join 10 more _ hne (fun l hl => splitK_no 10 _ s (Nat.le_refl _) l (List.mem_of_mem_take hl))]
  have := h3 (splitK 10 [] more)
  rw [Nat.sub_zero] at this
  rw [this]
  rfl
theorem confV_form (r : Rws) (c : Cf) : ∃ ao no co, confV r c = .agg #[.slice r.aN c.names.length r.cN, .slice r.aL c.lnames.length r.cL, .int .i64 (c.names.length : Int), .slice ao no co, .slice r.aK c.links.length r.cK, .slice r.aP c.pfx.length r.cP, .slice r.aQ c.pols.length r.cQ, .slice r.aD c.dems.length r.cD,
  .int .i64 (c.tm.getD 0 0), .int .i64 (c.tm.getD 1 0), .int .i64 (c.tm.getD 2 0), .int .i64 (c.tm.getD 3 0), .int .i64 (c.tm.getD 4 0)] := by
  unfold confV
  by_cases h : true ∈ c.ov
  · exact ⟨_, _, _, by rw [if_pos h]⟩
  · exact ⟨_, _, _, by rw [if_neg h]⟩
/-- A call that returns a configuration, its form alone. -/
def RetFo (w : World) (res : Except (Nat × Int) Cf) (e : Ending) (w' : World) : Prop :=
  (∃ a1 n1 k1 a2 n2 k2 m a3 n3 k3 a4 n4 k4 a5 n5 k5 a6 n6 k6 a7 n7 k7 t0 t1 t2 t3 t4, e = .returned (.tuple #[.agg #[.slice a1 n1 k1, .slice a2 n2 k2, .int .i64 m, .slice a3 n3 k3, .slice a4 n4 k4, .slice a5 n5 k5, .slice a6 n6 k6, .slice a7 n7 k7, .int .i64 t0, .int .i64 t1, .int .i64 t2, .int .i64 t3, .int .i64 t4],
    .int .i64 (match res with | .ok _ => 0 | .error p => (p.1 : Int)), .int .i64 (match res with | .ok _ => 0 | .error p => p.2)])) ∧ Below w.heap.size w w'
theorem RetCf.form {w w' : World} {res : Except (Nat × Int) Cf} {e : Ending} (h : RetCf w res e w') : RetFo w res e w' := by
  obtain ⟨h1, h2⟩ := h
  refine ⟨?_, h2⟩
  cases res with
  | ok c =>
    obtain ⟨r, rfl, _⟩ := h1
    obtain ⟨ao, no, co, e⟩ := confV_form r c
    rw [e]
    exact ⟨_, _, _, _, _, _, _, _, _, _, _, _, _, _, _, _, _, _, _, _, _, _, _, _, _, _, _, rfl⟩
  | error p =>
    obtain ⟨n, x⟩ := p
    simp only at h1
    rw [h1]
    exact ⟨_, _, _, _, _, _, _, _, _, _, _, _, _, _, _, _, _, _, _, _, _, _, _, _, _, _, _, rfl⟩

end Go.Proofs.YtpofbhaipeiegaaGreatDoor
