/-
  graph.Clone, graph.Over; lists of links, flat.
-/
import Derived.Test.YtenhliibmcmnbaaGreatClone
import Derived.Test.YtenhliibmcmnbaaGreatValid
import Derived.Test.YtenhliibmcmnbaaGreatIn
namespace Go.Proofs.YtenhliibmcmnbaaGreat
set_option linter.unusedSimpArgs false
set_option linter.unusedVariables false
open Go.RowKit Go.Sort

def lnkV (l : Lnk) : List Value := [.int .i64 l.a, .int .i64 l.b, .int .i64 l.c0, .int .i64 l.c1, .int .i64 l.cap, .int .i64 l.dl, .int .i64 l.g]
theorem lnkV_len (l : Lnk) : (lnkV l).length = 7 := rfl
theorem flat_len7 (ls : List Lnk) : (ls.flatMap lnkV).length = ls.length * 7 := by
  induction ls with
  | nil => rfl
  | cons x l ih => simp only [List.flatMap_cons, List.length_append, lnkV_len, ih, List.length_cons]; omega
theorem flat_at7 : ∀ (ls : List Lnk) (k : Nat) (l : Lnk), ls[k]? = some l → ∀ j, j < 7 → (ls.flatMap lnkV)[k * 7 + j]? = (lnkV l)[j]?
  | [], k, e, h => by simp at h
  | x :: l, 0, e, h => by
    intro j hj
    simp only [List.getElem?_cons_zero, Option.some.injEq] at h
    subst h
    simp only [List.flatMap_cons, Nat.zero_mul, Nat.zero_add]
    rw [List.getElem?_append_left (by rw [lnkV_len]; exact hj)]
  | x :: l, k + 1, e, h => by
    intro j hj
    have := flat_at7 l k e (by simpa using h) j hj
    simp only [List.flatMap_cons] at this ⊢
    rw [List.getElem?_append_right (by rw [lnkV_len]; omega)]
    rw [show (k + 1) * 7 + j - (lnkV x).length = k * 7 + j by rw [lnkV_len]; omega]
    exact this
theorem flat_one7 (ls : List Lnk) : ∀ u ∈ ls.flatMap lnkV, u.oneCell' = true := by
  intro u hu
  obtain ⟨e, _, he⟩ := List.mem_flatMap.1 hu
  simp [lnkV] at he
  rcases he with rfl | rfl | rfl | rfl | rfl | rfl | rfl <;> rfl
theorem bool_one (ov : List Bool) : ∀ u ∈ ov.map Value.bool, u.oneCell' = true := by
  intro u hu
  obtain ⟨e, _, rfl⟩ := List.mem_map.1 hu
  rfl
theorem rd_of_rdl {w : World} {A : Option Addr} {ls : List Lnk} (h : RdL w A ls) : Rd w A (ls.flatMap lnkV) := by
  rcases h with rfl | ⟨b, o, rfl, hc⟩
  · exact .inl rfl
  · refine .inr ⟨b, o, rfl, fun j u hu => ?_⟩
    have hj : j < ls.length * 7 := by rw [← flat_len7]; exact (List.getElem?_eq_some_iff.1 hu).1
    have hk : j / 7 < ls.length := by omega
    have hlt : j % 7 < 7 := Nat.mod_lt _ (by decide)
    have h2 := flat_at7 ls (j / 7) _ (List.getElem?_eq_getElem hk) (j % 7) hlt
    rw [show j / 7 * 7 + j % 7 = j by omega, hu] at h2
    have hq := hc (j / 7) _ (List.getElem?_eq_getElem hk)
    rw [show o + j = o + j / 7 * 7 + j % 7 by omega]
    have : j % 7 = 0 ∨ j % 7 = 1 ∨ j % 7 = 2 ∨ j % 7 = 3 ∨ j % 7 = 4 ∨ j % 7 = 5 ∨ j % 7 = 6 := by omega
    rcases this with h6 | h6 | h6 | h6 | h6 | h6 | h6 <;> rw [h6] at h2 ⊢ <;> simp [lnkV] at h2 <;> subst h2
    · exact hq.q0
    · exact hq.q1
    · exact hq.q2
    · exact hq.q3
    · exact hq.q4
    · exact hq.q5
    · exact hq.q6
theorem rdl_of_rd {w : World} {A : Option Addr} {ls : List Lnk} (h : Rd w A (ls.flatMap lnkV)) : RdL w A ls := by
  rcases h with h | ⟨b, o, rfl, hc⟩
  · refine .inl ?_
    have := flat_len7 ls
    rw [h] at this
    simp only [List.length_nil] at this
    exact List.eq_nil_of_length_eq_zero (by omega)
  · refine .inr ⟨b, o, rfl, fun k l hl => ?_⟩
    have hf := fun j hj v hv => hc (k * 7 + j) v ((flat_at7 ls k l hl j hj).trans hv)
    have e : ∀ j, o + (k * 7 + j) = o + k * 7 + j := fun j => by omega
    simp only [e] at hf
    exact ⟨hf 0 (by decide) _ rfl, hf 1 (by decide) _ rfl, hf 2 (by decide) _ rfl, hf 3 (by decide) _ rfl, hf 4 (by decide) _ rfl, hf 5 (by decide) _ rfl, hf 6 (by decide) _ rfl⟩
theorem lt2 {a b : Nat} (h : a + 1 < b) : a + 2 ≤ b := h
theorem rd_of_ownK {w : World} {base : Nat} {E : TypeId} {size : Nat} {v : Value} {n : Nat} {xs : List Value} (h : w.ownsRow base E size v n xs) : ∃ A c, v = .slice A n c ∧ n ≤ c ∧ c ≤ maxLen ∧ Rd w A xs := by
  rcases h with ⟨hl, ⟨rfl, rfl⟩ | ⟨g, cap, cur, rfl, hb, hg, hnc, hcm, hs, ht⟩⟩
  · exact ⟨none, 0, rfl, Nat.le_refl _, Nat.zero_le _, .inl (List.eq_nil_of_length_eq_zero (by simpa using hl))⟩
  · refine ⟨some ⟨g, 0, none⟩, cap, rfl, hnc, hcm, .inr ⟨g, 0, rfl, fun j u hu => ?_⟩⟩
    have h0 : w.ownsRow base E size (.slice (some ⟨g, 0, none⟩) n cap) n xs := ⟨hl, .inr ⟨g, cap, cur, rfl, hb, hg, hnc, hcm, hs, ht⟩⟩
    have hj : j < n * size := by rw [← hl]; exact (List.getElem?_eq_some_iff.1 hu).1
    rw [Nat.zero_add, h0.cellAt j hj]; exact hu
/-- A copy of a topology. -/
def RetClone (t : Topo) (w : World) (e : Ending) (w' : World) : Prop :=
  ∃ B1 B2 d1 d2, e = .returned (.agg #[.int .i64 t.n, .slice B1 t.ov.length d1, .slice B2 t.ls.length d2]) ∧ TAt w' B1 B2 t ∧ Below w.heap.size w w'
set_option maxRecDepth 100000 in
set_option maxHeartbeats 1000000 in
theorem graph_Clone (t : Topo) (A1 A2 : Option Addr) (c1 c2 : Nat) (w : World) (hT : TAt w A1 A2 t) (ho : t.ov.length ≤ 1000) (hn : t.ls.length ≤ 1000) :
    Calls Tryz.prog 34 #[.agg #[.int .i64 t.n, .slice A1 t.ov.length c1, .slice A2 t.ls.length c2]] w (RetClone t w) := by
  have HB := Lib.hid (below_two w (.cells #[.int .i64 t.n, .slice A1 t.ov.length c1, .slice A2 t.ls.length c2] 25) (.cells #[.int .i64 0, .slice none 0 0, .slice none 0 0] 25))
  obtain ⟨B1, B2⟩ := two_new w #[.int .i64 t.n, .slice A1 t.ov.length c1, .slice A2 t.ls.length c2] #[.int .i64 0, .slice none 0 0, .slice none 0 0] 25 25
  have HT := Lib.hid hT
  have HX := Lib.hid B1
  have HY := Lib.hid B2
  clear B1 B2 hT
  go_enter Tryz.func34, Tryz.ntmps34
  go_wp2_with (first | (go_at_call 79; refine (clone_bool _ _ _ (t.ov.map Value.bool) _ (HT.out.ov.below HB.out) (by simp) (bool_one _) (by omega)).mono ?_; rintro e w1 ⟨v, rfl, hw, hb⟩; obtain ⟨G1, d1, rfl, h1, h2, h3⟩ := rd_of_ownK hw; have HW1 := Lib.hid hw; have HB1 := Lib.hid (below_next HB.out hb); replace HX := Lib.hid (HX.out.up hb); replace HY := Lib.hid (HY.out.up hb); clear hw h3 hb; obtain ⟨x0, x1, x2, fx⟩ := HX.out.c3; obtain ⟨y0, y1, y2, fy⟩ := HY.out.c3) | (go_at_call 80; have HY2 := Lib.hid HY.out.lt; have HB2 := Lib.hid (Bset (j := 1) (v := .slice G1 t.ov.length d1) HB1.out (Nat.le_refl _)); refine (clone_Link _ _ _ (t.ls.flatMap lnkV) _ (rd_of_rdl (HT.out.ls.below HB2.out)) (flat_len7 _) (flat_one7 _) (by omega)).mono ?_; rintro e w2 ⟨v, rfl, hw, hb⟩; obtain ⟨G2, d2, rfl, g1, g2, g3⟩ := rd_of_ownK hw; have HW2 := Lib.hid hw; replace HW1 := Lib.hid (own_up (own_setCell (j := 1) HW1.out (fun e => by have := (HW1.out.lt _ e).1; simp at this; omega) (.slice G1 t.ov.length d1)) hb); have HB3 := Lib.hid (below_next HB2.out hb); replace HX := Lib.hid ((HX.out.set 1 (.slice G1 t.ov.length d1) rfl).up hb); replace HY := Lib.hid ((HY.out.other (c := w.heap.size) (j := 1) (by omega) (.slice G1 t.ov.length d1)).up hb); clear hw g3 hb x0 x1 x2 fx y0 y1 y2 fy; obtain ⟨x0, x1, x2, fx⟩ := HX.out.c3; obtain ⟨y0, y1, y2, fy⟩ := HY.out.c3))
  have n1 : ∀ (base : Nat) (v : Value) (n : Nat) (E : TypeId) (size : Nat) (xs : List Value), w.heap.size + 2 ≤ base → w2.ownsRow base E size v n xs → v.ownBlock ≠ some w.heap.size ∧ v.ownBlock ≠ some (w.heap.size + 1) := fun base v n E size xs hb h => ⟨fun e => by have := (h.lt _ e).1; omega, fun e => by have := (h.lt _ e).1; omega⟩
  have s1 := HB1.out.size
  have m1 := n1 _ _ _ _ _ _ (by simp) HW1.out
  have m2 := n1 _ _ _ _ _ _ (by have := HX.out.lt; simp; exact lt2 HY2.out) HW2.out
  have K1 := own_setCell (j := 2) (own_setCell (j := 1) (own_setCell (j := 0) (own_setCell (j := 2) HW1.out m1.1 (.slice G2 t.ls.length d2)) m1.2 (.int .i64 t.n)) m1.2 (.slice G1 t.ov.length d1)) m1.2 (.slice G2 t.ls.length d2)
  have K2 := own_setCell (j := 2) (own_setCell (j := 1) (own_setCell (j := 0) (own_setCell (j := 2) HW2.out m2.1 (.slice G2 t.ls.length d2)) m2.2 (.int .i64 t.n)) m2.2 (.slice G1 t.ov.length d1)) m2.2 (.slice G2 t.ls.length d2)
  obtain ⟨_, _, e1, _, _, r1⟩ := rd_of_ownK K1
  obtain ⟨_, _, e2, _, _, r2⟩ := rd_of_ownK K2
  injection e1 with e1 _ _
  injection e2 with e2 _ _
  subst e1 e2
  exact bodyPost_ret (v := .agg #[.int .i64 t.n, .slice G1 t.ov.length d1, .slice G2 t.ls.length d2]) (by simp [results, Tryz.results34, go_sem, y0, y1, y2]) rfl ⟨_, _, _, _, rfl, ⟨r1, rdl_of_rd r2⟩, by (repeat' (first | (with_reducible exact HB3.out) | (with_reducible refine Bset ?_ ?_) | (with_reducible refine Bdrw ?_) | (with_reducible refine Bbox ?_ ?_) | omega | (simp; done) | (simp; omega)))⟩

end Go.Proofs.YtenhliibmcmnbaaGreat
