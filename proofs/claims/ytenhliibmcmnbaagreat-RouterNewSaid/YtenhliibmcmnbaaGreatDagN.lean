/-
  dag.dists; dag.Next where all arcs are down.
-/
import Derived.Test.YtenhliibmcmnbaaGreatSpfD
namespace Go.Proofs.YtenhliibmcmnbaaGreat
set_option linter.unusedSimpArgs false
set_option linter.unusedVariables false
open Go.RowKit Go.Sort

section
variable {w : World} {A1 A2 D : Option Addr} {t : Topo} {dn : List Bool}
set_option maxRecDepth 100000 in
set_option maxHeartbeats 2000000 in
theorem dag_dists (c1 c2 dc : Nat) (n d : Int) (hv : valid t = true) (hd : isN t.n d = true) (hn : isN t.n n = true) (hT : TAt w A1 A2 t) (hD : Rd w D (dn.map Value.bool)) (hdl : dn.length = 0 ∨ dn.length = 2 * t.ls.length) :
    Calls Tryz.prog 245 #[.agg #[.int .i64 t.n, .slice A1 t.ov.length c1, .slice A2 t.ls.length c2], .slice D dn.length dc, .int .i64 n, .int .i64 d] w fun e w' => ∃ (A : Option Addr) (c : Nat) (dist : List Int), e = .returned (.tuple #[.slice A dist.length c, .int .i64 0]) ∧ Rd w' A (dist.map (Value.int .i64)) ∧ SR (sgDist t dn d) dist ∧ Below w.heap.size w w' := by
  have hX := TBox.start c1 c2 hT
  obtain ⟨b0, b1, b2⟩ := hX.cells
  have HX := Lib.hid hX
  have HDI := Lib.hid (fun W (hW : Below w.heap.size w W) (h : TBox w A1 A2 c1 c2 t W) => spf_Dist (w := W) (D := D) (dn := dn) c1 c2 dc d hv hd h.ta (hD.below hW) hdl)
  have HN := Lib.hid hn
  clear hX hT hv hd hD hdl hn
  go_enter Tryz.func245, Tryz.ntmps245
  go_wp2_with (first | (go_at_call 264; (with_reducible refine (HDI.out _ HX.out.hb HX.out).mono ?_); rintro e w2 ⟨A, c, dist, rfl, hr, hsr, hb⟩; replace HX := Lib.hid (HX.out.up hb); have HR := Lib.hid hr; have HSR := Lib.hid hsr; clear hb hr hsr b0 b1 b2; obtain ⟨b0, b1, b2⟩ := HX.out.cells) | (go_at_call 67; refine (graph_Node _ _ _ _ _).mono ?_; rw [HN.out]; rintro e w3 ⟨rfl, hb⟩; replace HX := Lib.hid (HX.out.up hb); replace HR := Lib.hid (HR.out.below hb); clear hb b0 b1 b2))
  go_ret2
  exact ⟨A, c, dist, rfl, HR.out, HSR.out, HX.out.hb⟩
theorem dag_next0 (v0 v1 v2 v3 v4 : Value) (Ad : Option Addr) (cd : Nat) (dist : List Int) (n d : Int) (hr : Rd w Ad (dist.map (Value.int .i64))) (h0 : 0 ≤ n) (h1 : n < (dist.length : Int)) (hz : n = d ∨ dD dist n < 0) :
    Calls Tryz.prog 246 #[.agg #[v0, v1, v2], v3, .slice Ad dist.length cd, v4, .int .i64 n, .int .i64 d] w fun e w' => e = .returned (.slice none 0 0) ∧ Below w.heap.size w w' := by
  have hb := below_box w (.cells #[v0, v1, v2] 25)
  by_cases e : n = d
  · subst e
    clear hz hr h1
    go_enter Tryz.func246, Tryz.ntmps246
    go_wp2_with fail
    go_ret
    exact ⟨rfl, hb⟩
  · have hl : n.toNat < dist.length := by omega
    obtain ⟨bz, oz, a, rfl, haz, caz⟩ := ints_at hr hl
    have hne : (n == d) = false := beq_eq_false_iff_ne.2 e
    have ha : a < 0 := by
      rcases hz with h | h
      · exact absurd h e
      · unfold dD at h; rw [List.getD_eq_getElem?_getD, haz] at h; exact h
    have c5 := cell_up hb caz
    clear hz hr haz caz hl
    go_enter Tryz.func246, Tryz.ntmps246
    go_wp2_with fail
    go_ret
    exact ⟨rfl, hb⟩
/-- A mask that has all arcs. -/
def allD (t : Topo) : List Bool := List.replicate (2 * t.ls.length) true
theorem allD_up {t : Topo} {a : Int} (h0 : 0 ≤ a) (h1 : a < 2 * (t.ls.length : Int)) : upB (allD t) a = false := by
  unfold upB allD
  rw [List.getD_eq_getElem?_getD, List.getElem?_replicate, if_pos (by omega)]
  rfl
theorem allD_dist {t : Topo} {d : Int} {dist : List Int} (h : SR (sgDist t (allD t) d) dist) {n : Int} (h0 : 0 ≤ n) (h1 : n < t.n) : n = d ∨ dD dist n < 0 := by
  rcases Int.lt_or_le (dD dist n) 0 with hl | hl
  · exact .inr hl
  · rcases h.td n h0 (by show n < ((t.n.toNat : Nat) : Int); omega) hl with ⟨e, _⟩ | ⟨m, a, _, _, _, _, ha, hu, _⟩
    · exact .inl e
    · obtain ⟨a0, a1, _⟩ := mem_ups.1 ha
      have := allD_up (t := t) a0 (by omega)
      rw [show (sgDist t (allD t) d).up a = upB (allD t) a from rfl, this] at hu
      cases hu
set_option maxRecDepth 100000 in
set_option maxHeartbeats 2000000 in
theorem dag_Next0 (c1 c2 dc : Nat) (n d : Int) (hv : valid t = true) (hd : isN t.n d = true) (hn : isN t.n n = true) (hT : TAt w A1 A2 t) (hD : Rd w D ((allD t).map Value.bool)) :
    Calls Tryz.prog 208 #[.agg #[.int .i64 t.n, .slice A1 t.ov.length c1, .slice A2 t.ls.length c2], .slice D (2 * t.ls.length) dc, .int .i64 n, .int .i64 d] w fun e w' => e = .returned (.tuple #[.slice none 0 0, .int .i64 0]) ∧ Below w.heap.size w w' := by
  have hL := valid_ls hv
  have hX := TBox.start c1 c2 hT
  obtain ⟨b0, b1, b2⟩ := hX.cells
  have HX := Lib.hid hX
  have HDI := Lib.hid (fun W (hW : Below w.heap.size w W) (h : TBox w A1 A2 c1 c2 t W) => dag_dists (w := W) (D := D) (dn := allD t) c1 c2 dc n d hv hd hn h.ta (hD.below hW) (.inr (by simp [allD])))
  have HN := Lib.hid (isN_true.1 hn)
  have hal : (allD t).length = 2 * t.ls.length := by simp [allD]
  rw [hal] at HDI
  have HLN : Hid (∀ dist, SR (sgDist t (allD t) d) dist → (dist.length : Int) = t.n) := Lib.hid (fun dist h => by have h1 : dist.length = t.n.toNat := h.len; have := valid_n hv; omega)
  clear hX hT hv hd hD hn hal
  go_enter Tryz.func208, Tryz.ntmps208
  go_upto_region 4 with (go_at_call 245; (with_reducible refine (HDI.out _ HX.out.hb HX.out).mono ?_); rintro e w2 ⟨A, c, dist, rfl, hr, hsr, hb⟩; replace HX := Lib.hid (HX.out.up hb); have HR := Lib.hid hr; have HSR := Lib.hid hsr; clear hb hr hsr b0 b1 b2; obtain ⟨b0, b1, b2⟩ := HX.out.cells)
  go_region_held3 (fun w' => w'.cell? ⟨w.heap.size, 0, none⟩ = some (.int .i64 t.n) ∧ w'.cell? ⟨w.heap.size, 1, none⟩ = some (.slice A1 t.ov.length c1) ∧ w'.cell? ⟨w.heap.size, 2, none⟩ = some (.slice A2 t.ls.length c2))
    (first | with_reducible exact HX.out.cells | exact (HX.out.up (Bdrw (Below.refl _ _))).cells)
    (first | (go_at_call 75; (with_reducible refine (graph_Out t _ _ _ _ _ _ (HX.out.up (Bdrw (Below.refl _ _))).ta (by omega)).mono ?_); rintro e w3 ⟨Ao, co, rfl, _, _, _, hb⟩; replace HX := Lib.hid ((HX.out.up (Bdrw (Below.refl _ _))).up hb); replace HR := Lib.hid ((HR.out.below (Bdrw (Below.refl _ _))).below hb); clear hb) | (go_at_call 246; (with_reducible refine (dag_next0 _ _ _ _ _ _ _ dist n d HR.out HN.out.1 (by rw [HLN.out _ HSR.out]; exact HN.out.2) (allD_dist HSR.out HN.out.1 HN.out.2)).mono ?_); rintro e w4 ⟨rfl, hb⟩; replace HX := Lib.hid (HX.out.up hb); clear hb))
  go_wp2_with fail
  go_ret2
  exact ⟨rfl, HX.out.hb⟩
end
end Go.Proofs.YtenhliibmcmnbaaGreat
