/-
  graph.Clone once more: the copy lies in memory of its own.
-/
import Derived.Test.YtenhliibmcmnbaaGreatRtG
namespace Go.Proofs.YtenhliibmcmnbaaGreat
set_option linter.unusedSimpArgs false
set_option linter.unusedVariables false
open Go.RowKit Go.Sort

/-- A slice that starts in a block from n on, if anywhere. -/
def Fresh (n : Nat) (A : Option Addr) : Prop := ∀ b o, A = some ⟨b, o, none⟩ → n ≤ b
theorem Fresh.mono {n m : Nat} {A : Option Addr} (h : Fresh n A) (hm : m ≤ n) : Fresh m A := fun b o e => Nat.le_trans hm (h b o e)
theorem Rd.set {W : World} {A : Option Addr} {xs : List Value} {n b : Nat} (h : Rd W A xs) (hf : Fresh n A) (hb : b < n) (j : Nat) (u : Value) : Rd (W.setCell ⟨b, j, none⟩ u) A xs := by
  rcases h with rfl | ⟨g, o, rfl, hc⟩
  · exact .inl rfl
  refine .inr ⟨g, o, rfl, fun i v hv => (World.cell?_setCell_other W _ _ _ (fun e => ?_)).trans (hc i v hv)⟩
  injection e with e _ _
  have := hf _ _ rfl
  omega
theorem RdL.set {W : World} {A : Option Addr} {ls : List Lnk} {n b : Nat} (h : RdL W A ls) (hf : Fresh n A) (hb : b < n) (j : Nat) (u : Value) : RdL (W.setCell ⟨b, j, none⟩ u) A ls :=
  rdl_of_rd ((rd_of_rdl h).set hf hb j u)
theorem TAt.set {W : World} {A1 A2 : Option Addr} {t : Topo} {n b : Nat} (h : TAt W A1 A2 t) (h1 : Fresh n A1) (h2 : Fresh n A2) (hb : b < n) (j : Nat) (u : Value) : TAt (W.setCell ⟨b, j, none⟩ u) A1 A2 t := ⟨h.ov.set h1 hb j u, h.ls.set h2 hb j u⟩
/-- A copy of a topology. -/
def RetCloneF (t : Topo) (w : World) (e : Ending) (w' : World) : Prop :=
  ∃ B1 B2 d1 d2, e = .returned (.agg #[.int .i64 t.n, .slice B1 t.ov.length d1, .slice B2 t.ls.length d2]) ∧ TAt w' B1 B2 t ∧ Below w.heap.size w w' ∧ Fresh w.heap.size B1 ∧ Fresh w.heap.size B2
set_option maxRecDepth 100000 in
set_option maxHeartbeats 1000000 in
theorem graph_CloneF (t : Topo) (A1 A2 : Option Addr) (c1 c2 : Nat) (w : World) (hT : TAt w A1 A2 t) (ho : t.ov.length ≤ 1000) (hn : t.ls.length ≤ 1000) :
    Calls Tryz.prog 34 #[.agg #[.int .i64 t.n, .slice A1 t.ov.length c1, .slice A2 t.ls.length c2]] w (RetCloneF t w) := by
  have HB := Lib.hid (below_two w (.cells #[.int .i64 t.n, .slice A1 t.ov.length c1, .slice A2 t.ls.length c2] 25) (.cells #[.int .i64 0, .slice none 0 0, .slice none 0 0] 25))
  obtain ⟨B1, B2⟩ := two_new w #[.int .i64 t.n, .slice A1 t.ov.length c1, .slice A2 t.ls.length c2] #[.int .i64 0, .slice none 0 0, .slice none 0 0] 25 25
  have HT := Lib.hid hT
  have HX := Lib.hid B1
  have HY := Lib.hid B2
  clear B1 B2 hT
  go_enter Tryz.func34, Tryz.ntmps34
  go_wp2_with (first | (go_at_call 79; refine (clone_bool _ _ _ (t.ov.map Value.bool) _ (HT.out.ov.below HB.out) (by simp) (bool_one _) (by omega)).mono ?_; rintro e w1 ⟨v, rfl, hw, hb⟩; obtain ⟨G1, d1, rfl, h1, h2, h3⟩ := rd_of_ownK hw; have HW1 := Lib.hid hw; have HB1 := Lib.hid (below_next HB.out hb); replace HX := Lib.hid (HX.out.up hb); replace HY := Lib.hid (HY.out.up hb); clear hw h3 hb; obtain ⟨x0, x1, x2, fx⟩ := HX.out.c3; obtain ⟨y0, y1, y2, fy⟩ := HY.out.c3) | (go_at_call 80; have HY2 := Lib.hid HY.out.lt; have HB2 := Lib.hid (Bset (j := 1) (v := .slice G1 t.ov.length d1) HB1.out (Nat.le_refl _)); refine (clone_Link _ _ _ (t.ls.flatMap lnkV) _ (rd_of_rdl (HT.out.ls.below HB2.out)) (flat_len7 _) (flat_one7 _) (by omega)).mono ?_; rintro e w2 ⟨v, rfl, hw, hb⟩; obtain ⟨G2, d2, rfl, g1, g2, g3⟩ := rd_of_ownK hw; have HW2 := Lib.hid hw; replace HW1 := Lib.hid (own_up (own_setCell (j := 1) HW1.out (fun e => by have := (HW1.out.lt _ e).1; simp at this; omega) (.slice G1 t.ov.length d1)) hb); have HB3 := Lib.hid (below_next HB2.out hb); replace HX := Lib.hid ((HX.out.set 1 (.slice G1 t.ov.length d1) rfl).up hb); replace HY := Lib.hid ((HY.out.other (c := w.heap.size) (j := 1) (by omega) (.slice G1 t.ov.length d1)).up hb); clear hw g3 hb x0 x1 x2 fx y0 y1 y2 fy; obtain ⟨x0, x1, x2, fx⟩ := HX.out.c3; obtain ⟨y0, y1, y2, fy⟩ := HY.out.c3))
  have n1 : ∀ (base : Nat) (v : Value) (n : Nat) (E : TypeId) (size : Nat) (xs : List Value), w.heap.size + 2 ≤ base → w2.ownsRow base E size v n xs → v.ownBlock ≠ some w.heap.size ∧ v.ownBlock ≠ some (w.heap.size + 1) := fun base v n E size xs hb h => ⟨fun e => by have := (h.lt _ e).1; omega, fun e => by have := (h.lt _ e).1; omega⟩
  have s1 := HB1.out.size
  have m1 := n1 _ _ _ _ _ _ (by simp) HW1.out
  have m2 := n1 _ _ _ _ _ _ (by have := HX.out.lt; simp; exact lt2 HY2.out) HW2.out
  have K1 := own_setCell (j := 2) (own_setCell (j := 1) (own_setCell (j := 0) (own_setCell (j := 2) HW1.out m1.1 (.slice G2 t.ls.length d2)) m1.2 (.int .i64 t.n)) m1.2 (.slice G1 t.ov.length d1)) m1.2 (.slice G2 t.ls.length d2)
  have K2 := own_setCell (j := 2) (own_setCell (j := 1) (own_setCell (j := 0) (own_setCell (j := 2) HW2.out m2.1 (.slice G2 t.ls.length d2)) m2.2 (.int .i64 t.n)) m2.2 (.slice G1 t.ov.length d1)) m2.2 (.slice G2 t.ls.length d2)
  obtain ⟨_, _, e1, _, _, r1⟩ := rd_of_ownK K1
  obtain ⟨_, _, e2, _, _, r2⟩ := rd_of_ownK K2
  injection e1 with e1 _ _
  injection e2 with e2 _ _
  subst e1 e2
  exact bodyPost_ret (v := .agg #[.int .i64 t.n, .slice G1 t.ov.length d1, .slice G2 t.ls.length d2]) (by simp [results, Tryz.results34, go_sem, y0, y1, y2]) rfl ⟨_, _, _, _, rfl, ⟨r1, rdl_of_rd r2⟩, by (repeat' (first | (with_reducible exact HB3.out) | (with_reducible refine Bset ?_ ?_) | (with_reducible refine Bdrw ?_) | (with_reducible refine Bbox ?_ ?_) | omega | (simp; done) | (simp; omega))), fun b o e => by subst e; exact Nat.le_trans (by simp; omega) (Nat.le_trans (Nat.le_refl _) (K1.lt b rfl).1), fun b o e => by subst e; have := (K2.lt b rfl).1; have := HY2.out; simp at *; omega⟩

end Go.Proofs.YtenhliibmcmnbaaGreat
