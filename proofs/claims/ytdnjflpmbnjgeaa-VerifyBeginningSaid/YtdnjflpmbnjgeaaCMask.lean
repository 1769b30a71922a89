/-
  component.Mask, waypointref10.Union, Mask, SameBools: what each returns.
-/
import Derived.Test.YtdnjflpmbnjgeaaCUn
namespace Go.Proofs.Ytdnjflpmbnjgeaa
open Go.RowKit Go.Sort
theorem RetBE.next {w0 w w' : World} {r : List Bool × Int} {e : Ending} (h : RetBE w r e w') (hb : Below w0.heap.size w0 w) : RetBE w0 r e w' := by
  obtain ⟨A, c, h0, h1, h2, h3⟩ := h
  exact ⟨A, c, h0, h1, below_next hb h2, fun p hp => Nat.le_trans hb.size (h3 p hp)⟩
theorem rdP_one {w : World} {g : Nat} {k m : Int} (s0 : w.cell? ⟨g, 0, none⟩ = some (.int .i64 k)) (s1 : w.cell? ⟨g, 1, none⟩ = some (.int .i64 m)) : RdP w (some ⟨g, 0, none⟩) [(k, m)] := by
  refine .inr ⟨g, 0, rfl, fun j p hp => ?_⟩
  match j, hp with
  | 0, hp => simp at hp; subst hp; exact ⟨s0, s1⟩
  | j + 1, hp => simp at hp
theorem rdP_new {w : World} {g : Nat} {k m : Int} {T : TypeId} (h : w.heap.size = g) : RdP (w.alloc (.cells #[.int .i64 k, .int .i64 m] T)) (some ⟨g, 0, none⟩) [(k, m)] := by
  subst h
  exact rdP_one (by simp) (by simp)
set_option maxHeartbeats 1000000 in
theorem component_Mask (t : Topo) (A1 A2 : Option Addr) (c1 c2 : Nat) (k m : Int) (w : World) (hT : TAt w A1 A2 t) (hn : t.ls.length ≤ 100000) :
    Calls Try.prog 31 #[.agg #[.int .i64 t.n, .slice A1 t.ov.length c1, .slice A2 t.ls.length c2], .agg #[.int .i64 k, .int .i64 m]] w (RetBE w (unionV t [(k, m)])) := by
  have hb0 := below_box w (.cells #[.int .i64 t.n, .slice A1 t.ov.length c1, .slice A2 t.ls.length c2] 25)
  have hb1 := below_box (w.alloc (.cells #[.int .i64 t.n, .slice A1 t.ov.length c1, .slice A2 t.ls.length c2] 25)) (.cells #[.int .i64 k, .int .i64 m] 77)
  have HB := below_next hb0 hb1
  have HT := hT.below HB
  have b0 := cell_up hb1 (box0 w (.int .i64 t.n) (.slice A1 t.ov.length c1) (.slice A2 t.ls.length c2) 25)
  have b1 := cell_up hb1 (box1 w (.int .i64 t.n) (.slice A1 t.ov.length c1) (.slice A2 t.ls.length c2) 25)
  have b2 := cell_up hb1 (box2 w (.int .i64 t.n) (.slice A1 t.ov.length c1) (.slice A2 t.ls.length c2) 25)
  have s0 : ((w.alloc (.cells #[.int .i64 t.n, .slice A1 t.ov.length c1, .slice A2 t.ls.length c2] 25)).alloc (.cells #[.int .i64 k, .int .i64 m] 77)).cell? ⟨w.heap.size + 1, 0, none⟩ = some (.int .i64 k) := by simp
  have s1 : ((w.alloc (.cells #[.int .i64 t.n, .slice A1 t.ov.length c1, .slice A2 t.ls.length c2] 25)).alloc (.cells #[.int .i64 k, .int .i64 m] 77)).cell? ⟨w.heap.size + 1, 1, none⟩ = some (.int .i64 m) := by simp
  clear hb0 hb1 hT
  have HT' := Lib.hid HT
  have HB' := Lib.hid HB
  clear HT HB
  go_enter Try.func31, Try.ntmps31
  go_wp2_with fail
  refine (component_Union t A1 A2 c1 c2 _ 1 [(k, m)] _ (HT'.out.below (below_box _ _)) (rdP_new (by simp)) hn (by simp)).mono ?_
  rintro e w2 ⟨A, c, rfl, hr, hb, hfr⟩
  have HFR : Hid (∀ p, A = some p → w.heap.size ≤ p.block) := Lib.hid (fun p hp => Nat.le_trans (below_next HB'.out (below_box _ _)).size (hfr p hp))
  clear hfr
  go_wp2_with fail
  go_ret2
  exact ⟨A, c, rfl, hr, below_next (below_next HB'.out (below_box _ _)) hb, HFR.out⟩
theorem bools_at {w : World} {A : Option Addr} {xs : List Bool} {k : Nat} (h : Rd w A (xs.map Value.bool)) (hk : k < xs.length) : ∃ b o x, A = some ⟨b, o, none⟩ ∧ xs[k]? = some x ∧ w.cell? ⟨b, o + k, none⟩ = some (.bool x) := by
  obtain ⟨b, o, hA, hc⟩ := h.at_ (k := k) (u := .bool xs[k]) (by simp [hk])
  exact ⟨b, o, xs[k], hA, List.getElem?_eq_getElem hk, hc⟩
end Go.Proofs.Ytdnjflpmbnjgeaa
