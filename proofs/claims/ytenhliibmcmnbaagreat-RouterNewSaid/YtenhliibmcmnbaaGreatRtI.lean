/-
  speaker.New: the speaker of a node (printed by gen_rti.py).
-/
import Derived.Test.YtenhliibmcmnbaaGreatRtH
import Derived.Test.YtenhliibmcmnbaaGreatRtF
import Derived.Test.YtenhliibmcmnbaaGreatRtJ
import Derived.Test.YtenhliibmcmnbaaGreatRtS
import Derived.Test.YtenhliibmcmnbaaGreatReg
import Derived.Deep.AppendLies
namespace Go.Proofs.YtenhliibmcmnbaaGreat
set_option linter.unusedSimpArgs false
set_option linter.unusedVariables false
open Go.RowKit Go.Sort

section
variable {w : World} {A1 A2 : Option Addr} {t : Topo}
theorem n6_up {w5 w' : World} {c1 c2 : Nat} {h1 h2 h3 : Int} (hb : Below w5.heap.size w5 w') (h : (w5.cell? ⟨w.heap.size, 0, none⟩ = some (.int .i64 t.n) ∧ w5.cell? ⟨w.heap.size, 1, none⟩ = some (.slice A1 t.ov.length c1) ∧ w5.cell? ⟨w.heap.size, 2, none⟩ = some (.slice A2 t.ls.length c2) ∧ w5.cell? ⟨w.heap.size + 1, 0, none⟩ = some (.int .i64 h1) ∧ w5.cell? ⟨w.heap.size + 1, 1, none⟩ = some (.int .i64 h2) ∧ w5.cell? ⟨w.heap.size + 1, 2, none⟩ = some (.int .i64 h3))) : (w'.cell? ⟨w.heap.size, 0, none⟩ = some (.int .i64 t.n) ∧ w'.cell? ⟨w.heap.size, 1, none⟩ = some (.slice A1 t.ov.length c1) ∧ w'.cell? ⟨w.heap.size, 2, none⟩ = some (.slice A2 t.ls.length c2) ∧ w'.cell? ⟨w.heap.size + 1, 0, none⟩ = some (.int .i64 h1) ∧ w'.cell? ⟨w.heap.size + 1, 1, none⟩ = some (.int .i64 h2) ∧ w'.cell? ⟨w.heap.size + 1, 2, none⟩ = some (.int .i64 h3)) := ⟨cell_up hb h.1, cell_up hb h.2.1, cell_up hb h.2.2.1, cell_up hb h.2.2.2.1, cell_up hb h.2.2.2.2.1, cell_up hb h.2.2.2.2.2⟩
theorem n6_box {w5 : World} (o : Obj) {c1 c2 : Nat} {h1 h2 h3 : Int} (h : (w5.cell? ⟨w.heap.size, 0, none⟩ = some (.int .i64 t.n) ∧ w5.cell? ⟨w.heap.size, 1, none⟩ = some (.slice A1 t.ov.length c1) ∧ w5.cell? ⟨w.heap.size, 2, none⟩ = some (.slice A2 t.ls.length c2) ∧ w5.cell? ⟨w.heap.size + 1, 0, none⟩ = some (.int .i64 h1) ∧ w5.cell? ⟨w.heap.size + 1, 1, none⟩ = some (.int .i64 h2) ∧ w5.cell? ⟨w.heap.size + 1, 2, none⟩ = some (.int .i64 h3))) : ((w5.alloc o).cell? ⟨w.heap.size, 0, none⟩ = some (.int .i64 t.n) ∧ (w5.alloc o).cell? ⟨w.heap.size, 1, none⟩ = some (.slice A1 t.ov.length c1) ∧ (w5.alloc o).cell? ⟨w.heap.size, 2, none⟩ = some (.slice A2 t.ls.length c2) ∧ (w5.alloc o).cell? ⟨w.heap.size + 1, 0, none⟩ = some (.int .i64 h1) ∧ (w5.alloc o).cell? ⟨w.heap.size + 1, 1, none⟩ = some (.int .i64 h2) ∧ (w5.alloc o).cell? ⟨w.heap.size + 1, 2, none⟩ = some (.int .i64 h3)) := n6_up (below_box w5 o) h
theorem own_kp {w w' : World} {B : Nat} {E : TypeId} {size : Nat} {v : Value} {n : Nat} {xs : List Value} {sb : Nat} (h : w.ownsRow B E size v n xs) (hk : Kp [sb] w w') (hs : sb < B) : w'.ownsRow B E size v n xs := by
  rcases h with ⟨hl, h0 | ⟨g, cap, cur, hv, hB, hg, rest⟩⟩
  · exact ⟨hl, .inl h0⟩
  · exact ⟨hl, .inr ⟨g, cap, cur, hv, hB, (hk.blk g (Array.getElem?_eq_some_iff.1 hg).1 (by simp; omega)).trans hg, rest⟩⟩
theorem arc_bd {t : Topo} {v a : Int} {k : Nat} (h : (ups (outP t v) (2 * t.ls.length))[k]? = some a) : 0 ≤ a ∧ a < 2 * (t.ls.length : Int) := by
  have := mem_ups.1 (List.mem_of_getElem? h)
  omega
theorem t3_up {w w5 w' : World} {A1 A2 : Option Addr} {t : Topo} {c1 c2 : Nat} (hb : Below w5.heap.size w5 w') (h : w5.cell? ⟨w.heap.size, 0, none⟩ = some (.int .i64 t.n) ∧ w5.cell? ⟨w.heap.size, 1, none⟩ = some (.slice A1 t.ov.length c1) ∧ w5.cell? ⟨w.heap.size, 2, none⟩ = some (.slice A2 t.ls.length c2)) :
    w'.cell? ⟨w.heap.size, 0, none⟩ = some (.int .i64 t.n) ∧ w'.cell? ⟨w.heap.size, 1, none⟩ = some (.slice A1 t.ov.length c1) ∧ w'.cell? ⟨w.heap.size, 2, none⟩ = some (.slice A2 t.ls.length c2) := ⟨cell_up hb h.1, cell_up hb h.2.1, cell_up hb h.2.2⟩
theorem t3_grown {w w5 w' : World} {A1 A2 : Option Addr} {t : Topo} {c1 c2 : Nat} {r : Option Nat} (hg : w5.grownBy w' r) (hne : some w.heap.size ≠ r) (h : w5.cell? ⟨w.heap.size, 0, none⟩ = some (.int .i64 t.n) ∧ w5.cell? ⟨w.heap.size, 1, none⟩ = some (.slice A1 t.ov.length c1) ∧ w5.cell? ⟨w.heap.size, 2, none⟩ = some (.slice A2 t.ls.length c2)) :
    w'.cell? ⟨w.heap.size, 0, none⟩ = some (.int .i64 t.n) ∧ w'.cell? ⟨w.heap.size, 1, none⟩ = some (.slice A1 t.ov.length c1) ∧ w'.cell? ⟨w.heap.size, 2, none⟩ = some (.slice A2 t.ls.length c2) :=
  ⟨(hg.cell_far ⟨w.heap.size, 0, none⟩ (block_lt_of_cell h.1) hne).trans h.1, (hg.cell_far ⟨w.heap.size, 1, none⟩ (block_lt_of_cell h.2.1) hne).trans h.2.1, (hg.cell_far ⟨w.heap.size, 2, none⟩ (block_lt_of_cell h.2.2) hne).trans h.2.2⟩
theorem t3_set {w w5 : World} {A1 A2 : Option Addr} {t : Topo} {c1 c2 sb j : Nat} {u : Value} (hne : sb ≠ w.heap.size) (h : w5.cell? ⟨w.heap.size, 0, none⟩ = some (.int .i64 t.n) ∧ w5.cell? ⟨w.heap.size, 1, none⟩ = some (.slice A1 t.ov.length c1) ∧ w5.cell? ⟨w.heap.size, 2, none⟩ = some (.slice A2 t.ls.length c2)) :
    (w5.setCell ⟨sb, j, none⟩ u).cell? ⟨w.heap.size, 0, none⟩ = some (.int .i64 t.n) ∧ (w5.setCell ⟨sb, j, none⟩ u).cell? ⟨w.heap.size, 1, none⟩ = some (.slice A1 t.ov.length c1) ∧ (w5.setCell ⟨sb, j, none⟩ u).cell? ⟨w.heap.size, 2, none⟩ = some (.slice A2 t.ls.length c2) := by
  have e : ∀ i, (w5.setCell ⟨sb, j, none⟩ u).cell? ⟨w.heap.size, i, none⟩ = w5.cell? ⟨w.heap.size, i, none⟩ := fun i => World.cell?_setCell_other w5 _ _ _ (fun e => hne (by injection e))
  exact ⟨(e 0).trans h.1, (e 1).trans h.2.1, (e 2).trans h.2.2⟩
theorem own_ne {w : World} {B : Nat} {E : TypeId} {size : Nat} {v : Value} {n : Nat} {xs : List Value} {c : Nat} (h : w.ownsRow B E size v n xs) (hc : c < B) : v.ownBlock ≠ some c := fun e => by
  have := (h.lt _ e).1
  omega
/-- The port of an arc. -/
def portOf (t : Topo) (a : Int) : Int × Int × Int := (IntKind.i64.wrap (a.tdiv 2), head t a, cost t a)
theorem port_one (p : Int × Int × Int) : ∀ u ∈ portV p, u.oneCell' = true := by
  intro u hu
  simp [portV] at hu
  rcases hu with rfl | rfl | rfl | rfl <;> rfl
theorem take_ports {t : Topo} {arcs : List Int} {k : Nat} {a : Int} (h : arcs[k]? = some a) : ((arcs.take (k + 1)).map (portOf t)).flatMap portV = ((arcs.take k).map (portOf t)).flatMap portV ++ portV (portOf t a) := by
  rw [List.take_add_one, h]
  simp
theorem portInfo : (Tryz.prog.info? 170).map (fun i => (i.zero, i.size, i.bytes)) = some (some (.agg #[.int .i64 0, .int .i64 0, .int .i64 0, .int .i64 0, .int .i64 0, .int .i64 0]), 6, 48) := by kernel_rfl
set_option maxRecDepth 100000 in
set_option maxHeartbeats 8000000 in
theorem speaker_New_ok (c1 c2 : Nat) (v bt h1 h2 h3 : Int) (hT : TAt w A1 A2 t) (hv : valid t = true) (hx : inR bt 1 1073741824 = true) (e1 : inR h1 1 65536 = true) (e2 : inR h2 1 65536 = true) (e3 : inR h3 1 65536 = true) (hn : isN t.n v = true) :
    Calls Tryz.prog 33 #[.agg #[.int .i64 t.n, .slice A1 t.ov.length c1, .slice A2 t.ls.length c2], .int .i64 v, .int .i64 bt, .agg #[.int .i64 h1, .int .i64 h2, .int .i64 h3]] w fun e w' => (∃ sb, e = .returned (.tuple #[.pointer (some ⟨sb, 0, none⟩), .int .i64 0]) ∧ SpkAt t v sb w') ∧ Below w.heap.size w w' := by
  have HN := Lib.hid (NBox.start c1 c2 h1 h2 h3 hT)
  obtain ⟨b0, b1, b2, k0, k1, k2⟩ := HN.out.cells
  have hx0 := idx3_0
  have hx1 := idx3_1
  have hx2 := idx3_2
  have hN := isN_true.1 hn
  have hv0 := hN.1
  have hvn := valid_n hv
  have hov0 := valid_ov hv
  have hln : t.ls.length ≤ 1000 := by have := valid_ls hv; omega
  have hov : t.ov.length ≤ 1000 := by rcases hov0 with h | h <;> omega
  have hov2 : t.ov.length = 0 ∨ v < (t.ov.length : Int) := by rcases hov0 with h | h; exact .inl h; exact .inr (by omega)
  clear hT hN hvn hov0
  go_enter Tryz.func33, Tryz.ntmps33
  go_wp2_with (first | (go_at_call 54; refine (topology_Valid t _ _ _ _ _ HN.out.b.ta.ls).mono ?_; rw [hv]; rintro e w1 ⟨rfl, hb⟩; replace HN := Lib.hid (HN.out.up hb); clear hb b0 b1 b2 k0 k1 k2; obtain ⟨b0, b1, b2, k0, k1, k2⟩ := HN.out.cells) | (go_at_call 70; refine (speaker_within _ _ _ _).mono ?_; rintro e w2 ⟨rfl, rfl⟩))
  go_loopw [30] (fun i wr => ∃ k : Nat, k ≤ 3 ∧ i = .int .i64 k ∧ wr = w1) (fun i _ => 3 - (intOf i).toNat)
  case atStart => exact ⟨0, by omega, rfl, rfl⟩
  case round =>
    obtain ⟨k, hk, rfl, rfl⟩ := hrel
    obtain rfl | rfl | rfl | rfl : k = 0 ∨ k = 1 ∨ k = 2 ∨ k = 3 := by omega
    · go_wp2_with (go_at_call 70; refine (speaker_within _ _ _ _).mono ?_; rintro e w2 ⟨rfl, rfl⟩)
      go_roundw
      case rel => exact ⟨1, by omega, rfl, by first | exact trivial | rfl⟩
      case measure => simp [intOf]
    · go_wp2_with (go_at_call 70; refine (speaker_within _ _ _ _).mono ?_; rintro e w2 ⟨rfl, rfl⟩)
      go_roundw
      case rel => exact ⟨2, by omega, rfl, by first | exact trivial | rfl⟩
      case measure => simp [intOf]
    · go_wp2_with (go_at_call 70; refine (speaker_within _ _ _ _).mono ?_; rintro e w2 ⟨rfl, rfl⟩)
      go_roundw
      case rel => exact ⟨3, by omega, rfl, by first | exact trivial | rfl⟩
      case measure => simp [intOf]
    · clear hx0 hx1 hx2
      go_wp2_with (go_at_call 67; refine (graph_Node _ _ _ _ _).mono ?_; rw [hn]; rintro e w3 ⟨rfl, hb⟩; replace HN := Lib.hid (HN.out.up hb); clear hb b0 b1 b2 k0 k1 k2)
      refine wp_region_held_drew (S := (fun w' => w'.cell? ⟨w.heap.size, 0, none⟩ = some (.int .i64 t.n) ∧ w'.cell? ⟨w.heap.size, 1, none⟩ = some (.slice A1 t.ov.length c1) ∧ w'.cell? ⟨w.heap.size, 2, none⟩ = some (.slice A2 t.ls.length c2) ∧ w'.cell? ⟨w.heap.size + 1, 0, none⟩ = some (.int .i64 h1) ∧ w'.cell? ⟨w.heap.size + 1, 1, none⟩ = some (.int .i64 h2) ∧ w'.cell? ⟨w.heap.size + 1, 2, none⟩ = some (.int .i64 h3))) (by kernel_rfl) ?_ (fun hHeld => ?_)
      · exact HN.out.cells
      have HNd := Lib.hid (HN.out.up (Bdrw (Below.refl _ _)))
      clear HN
      generalize w3.drew = W9 at hHeld HNd ⊢
      have HN := HNd
      clear HNd
      repeat' (first | ((first | (refine takeL (i := 0) (v := ?_) rfl (by kernel_rfl) (by decide +kernel) (by decide +kernel) (fun _ _ _ h => h) (Or.inl ⟨by rfl, ?_⟩) (by assumption) ?_; rotate_left; (focus (intro w9 hS9; (try dsimp only at hS9); go_simp; (try with_reducible rfl); done))) | (refine takeL (i := 1) (v := ?_) rfl (by kernel_rfl) (by decide +kernel) (by decide +kernel) (fun _ _ _ h => h) (Or.inl ⟨by rfl, ?_⟩) (by assumption) ?_; rotate_left; (focus (intro w9 hS9; (try dsimp only at hS9); go_simp; (try with_reducible rfl); done))) | (refine takeL (i := 2) (v := ?_) rfl (by kernel_rfl) (by decide +kernel) (by decide +kernel) (fun _ _ _ h => h) (Or.inl ⟨by rfl, ?_⟩) (by assumption) ?_; rotate_left; (focus (intro w9 hS9; (try dsimp only at hS9); go_simp; (try with_reducible rfl); done))) | (refine takeL (i := 3) (v := ?_) rfl (by kernel_rfl) (by decide +kernel) (by decide +kernel) (fun _ _ _ h => h) (Or.inl ⟨by rfl, ?_⟩) (by assumption) ?_; rotate_left; (focus (intro w9 hS9; (try dsimp only at hS9); go_simp; (try with_reducible rfl); done))) | (refine takeL (i := 4) (v := ?_) rfl (by kernel_rfl) (by decide +kernel) (by decide +kernel) (fun _ _ _ h => h) (Or.inl ⟨by rfl, ?_⟩) (by assumption) ?_; rotate_left; (focus (intro w9 hS9; (try dsimp only at hS9); go_simp; (try with_reducible rfl); done))) | (refine takeL (i := 5) (v := ?_) rfl (by kernel_rfl) (by decide +kernel) (by decide +kernel) (fun _ _ _ h => h) (Or.inl ⟨by rfl, ?_⟩) (by assumption) ?_; rotate_left; (focus (intro w9 hS9; (try dsimp only at hS9); go_simp; (try with_reducible rfl); done))) | (refine takeL (i := 6) (v := ?_) rfl (by kernel_rfl) (by decide +kernel) (by decide +kernel) (fun _ _ _ h => h) (Or.inl ⟨by rfl, ?_⟩) (by assumption) ?_; rotate_left; (focus (intro w9 hS9; (try dsimp only at hS9); go_simp; (try with_reducible rfl); done))) | (refine takeL (i := 7) (v := ?_) rfl (by kernel_rfl) (by decide +kernel) (by decide +kernel) (fun _ _ _ h => h) (Or.inl ⟨by rfl, ?_⟩) (by assumption) ?_; rotate_left; (focus (intro w9 hS9; (try dsimp only at hS9); go_simp; (try with_reducible rfl); done))) | (refine takeL (i := 8) (v := ?_) rfl (by kernel_rfl) (by decide +kernel) (by decide +kernel) (fun _ _ _ h => h) (Or.inl ⟨by rfl, ?_⟩) (by assumption) ?_; rotate_left; (focus (intro w9 hS9; (try dsimp only at hS9); go_simp; (try with_reducible rfl); done))) | (refine takeL (i := 9) (v := ?_) rfl (by kernel_rfl) (by decide +kernel) (by decide +kernel) (fun _ _ _ h => h) (Or.inl ⟨by rfl, ?_⟩) (by assumption) ?_; rotate_left; (focus (intro w9 hS9; (try dsimp only at hS9); go_simp; (try with_reducible rfl); done))) | (refine takeL (i := 10) (v := ?_) rfl (by kernel_rfl) (by decide +kernel) (by decide +kernel) (fun _ _ _ h => h) (Or.inl ⟨by rfl, ?_⟩) (by assumption) ?_; rotate_left; (focus (intro w9 hS9; (try dsimp only at hS9); go_simp; (try with_reducible rfl); done))) | (refine takeL (i := 11) (v := ?_) rfl (by kernel_rfl) (by decide +kernel) (by decide +kernel) (fun _ _ _ h => h) (Or.inl ⟨by rfl, ?_⟩) (by assumption) ?_; rotate_left; (focus (intro w9 hS9; (try dsimp only at hS9); go_simp; (try with_reducible rfl); done))) | fail); (try simp only [Act.put, List.setIfInBounds_toArray, List.set_cons_zero, List.set_cons_succ])) | ((first | (refine wpAnyH_ready (rs := [1]) (by decide +kernel) (by simp) ?_; refine consL rfl (fun K hK => ?_) ?_; rotate_left; exact AllReadyH.nil) | (refine wpAnyH_ready (rs := [7]) (by decide +kernel) (by simp) ?_; refine consL rfl (fun K hK => ?_) ?_; rotate_left; exact AllReadyH.nil) | (refine wpAnyH_ready (rs := [8]) (by decide +kernel) (by simp) ?_; refine consL rfl (fun K hK => ?_) ?_; rotate_left; exact AllReadyH.nil) | (refine wpAnyH_ready (rs := [10]) (by decide +kernel) (by simp) ?_; refine consL rfl (fun K hK => ?_) ?_; rotate_left; exact AllReadyH.nil) | fail); all_goals ((first | (go_at_call 34; (with_reducible refine (graph_Clone t _ _ _ _ _ HN.out.b.ta hov hln).mono ?_); rintro e w5 ⟨B1, B2, d1, d2, rfl, hc, hb⟩; have HC := Lib.hid hc; have HMB := Lib.hid hb; replace HN := Lib.hid (HN.out.up hb); clear hc hb) | (go_at_call 71; (with_reducible refine (graph_Over _ _ _ _ t _ _ HN.out.b.ta.ov hv0 hov2).mono ?_); rintro e w6 ⟨rfl, hb⟩; replace HMB := Lib.hid hb; replace HC := Lib.hid (HC.out.below hb); replace HN := Lib.hid (HN.out.up hb); clear hb) | (go_at_call 72; (with_reducible refine (lsdb_New _).mono ?_); rintro e w7 ⟨mb, db, rfl, hd, hm, hmw, hdw, hb⟩; replace HMB := Lib.hid hb; have HC6 := HC; have HN6 := Lib.hid (HN.out.b.hb.size); have H6 := Lib.hid hb; have HM6 := Lib.hid hmw; have HD6 := Lib.hid hdw; have HD := Lib.hid hd; have HM := Lib.hid hm; have HDW := Lib.hid (Nat.le_trans HN.out.b.hb.size hdw); have HMW := Lib.hid (Nat.le_trans HN.out.b.hb.size hmw); replace HC := Lib.hid (HC.out.below hb); replace HN := Lib.hid (HN.out.up hb); clear hd hm hmw hdw hb) | (go_simp; first | done | (first | (go_at_call 34; (with_reducible refine (graph_Clone t _ _ _ _ _ HN.out.b.ta hov hln).mono ?_); rintro e w5 ⟨B1, B2, d1, d2, rfl, hc, hb⟩; have HC := Lib.hid hc; have HMB := Lib.hid hb; replace HN := Lib.hid (HN.out.up hb); clear hc hb) | (go_at_call 71; (with_reducible refine (graph_Over _ _ _ _ t _ _ HN.out.b.ta.ov hv0 hov2).mono ?_); rintro e w6 ⟨rfl, hb⟩; replace HMB := Lib.hid hb; replace HC := Lib.hid (HC.out.below hb); replace HN := Lib.hid (HN.out.up hb); clear hb) | (go_at_call 72; (with_reducible refine (lsdb_New _).mono ?_); rintro e w7 ⟨mb, db, rfl, hd, hm, hmw, hdw, hb⟩; replace HMB := Lib.hid hb; have HC6 := HC; have HN6 := Lib.hid (HN.out.b.hb.size); have H6 := Lib.hid hb; have HM6 := Lib.hid hmw; have HD6 := Lib.hid hdw; have HD := Lib.hid hd; have HM := Lib.hid hm; have HDW := Lib.hid (Nat.le_trans HN.out.b.hb.size hdw); have HMW := Lib.hid (Nat.le_trans HN.out.b.hb.size hmw); replace HC := Lib.hid (HC.out.below hb); replace HN := Lib.hid (HN.out.up hb); clear hd hm hmw hdw hb))) | go_simp); (first | (with_reducible refine hK.out _ _ ?_ ?_) | (go_wp2_with fail; refine hK.out _ _ ?_ ?_)); (focus (first | with_reducible exact hHeld | exact n6_box _ hHeld | exact n6_up HMB.out hHeld)); clear hK K hHeld; intro hHeld; (try simp only [Act.put, List.setIfInBounds_toArray, List.set_cons_zero, List.set_cons_succ]))) | (refine wpAnyH_done (by decide +kernel) ?_ _) | fail)
      clear hHeld HMB
      have HS := Lib.hid (Bl.new w7 #[.int .i64 t.n, .slice B1 t.ov.length d1, .slice B2 t.ls.length d2, .int .i64 v, .int .i64 bt, .int .i64 h1, .int .i64 h2, .int .i64 h3, .int .i64 0, .slice none 0 0, .bool (over t v), .slice none 0 0, .pointer (some ⟨db, 0, none⟩), .pointer none, .pointer none] 160)
      have C7 := Lib.hid (below_box w7 (.cells #[.int .i64 t.n, .slice B1 t.ov.length d1, .slice B2 t.ls.length d2, .int .i64 v, .int .i64 bt, .int .i64 h1, .int .i64 h2, .int .i64 h3, .int .i64 0, .slice none 0 0, .bool (over t v), .slice none 0 0, .pointer (some ⟨db, 0, none⟩), .pointer none, .pointer none] 160))
      obtain ⟨sb, hsb⟩ : ∃ sb, sb = w7.heap.size := ⟨_, rfl⟩
      have HSB := Lib.hid hsb
      rw [← hsb] at HS
      have hW1 : sb < (w7.alloc (.cells #[.int .i64 t.n, .slice B1 t.ov.length d1, .slice B2 t.ls.length d2, .int .i64 v, .int .i64 bt, .int .i64 h1, .int .i64 h2, .int .i64 h3, .int .i64 0, .slice none 0 0, .bool (over t v), .slice none 0 0, .pointer (some ⟨db, 0, none⟩), .pointer none, .pointer none] 160)).heap.size := by rw [hsb]; simp
      have E3 := Lib.hid e3
      have H64 : Hid (isN 64 v = true) := Lib.hid (by rw [isN_true] at hn ⊢; have := valid_n hv; omega)
      rw [← hsb]
      generalize w7.alloc (.cells #[.int .i64 t.n, .slice B1 t.ov.length d1, .slice B2 t.ls.length d2, .int .i64 v, .int .i64 bt, .int .i64 h1, .int .i64 h2, .int .i64 h3, .int .i64 0, .slice none 0 0, .bool (over t v), .slice none 0 0, .pointer (some ⟨db, 0, none⟩), .pointer none, .pointer none] 160) = W1 at HS C7 hW1 ⊢
      have HSZ := Lib.hid hW1
      clear hsb hW1 e1 e2 e3 hx
      have k2 := (HN.out.up C7.out).cells.2.2.2.2.2
      obtain ⟨s0, s1, s2, s3, s4, s5, s6, s7, s8, s9, s10, s11, s12, s13, s14, fs⟩ := HS.out.c15
      go_wp2_with (go_at_call 73; refine (flood_New h3 _ E3.out).mono ?_; rintro e w8 ⟨nb, fb, rfl, hf, hnm, hnw, hfw, hb⟩; have HF := Lib.hid hf; have HNB := Lib.hid hnm; have HFW := Lib.hid hfw; have HNW := Lib.hid hnw; replace HS := Lib.hid (HS.out.up hb); replace C7 := Lib.hid (C7.out.trans (hb.mono C7.out.size)); clear hf hnm hnw hfw hb k2 s0 s1 s2 s3 s4 s5 s6 s7 s8 s9 s10 s11 s12 s13 s14 fs; obtain ⟨s0, s1, s2, s3, s4, s5, s6, s7, s8, s9, s10, s11, s12, s13, s14, fs⟩ := HS.out.c15)
      refine (origin_New v _ H64.out).mono ?_
      rintro e w9 ⟨ob, rfl, ho, how, hb⟩
      have HSZ8 := Lib.hid HS.out.lt
      have HO := Lib.hid ho
      have HOW := Lib.hid how
      replace HS := Lib.hid ((HS.out.set 13 (.pointer (some ⟨fb, 0, none⟩)) rfl).up hb)
      replace HF := Lib.hid ((HF.out.other (c := sb) (j := 13) (by have := HFW.out; have := HSZ.out; omega) (.pointer (some ⟨fb, 0, none⟩))).up hb)
      replace HNB := Lib.hid ((HNB.out.kept (Below.heap_setCell _ ⟨sb, 13, none⟩ _ _ (by have := HNW.out; have := HSZ.out; show nb ≠ sb; omega))).up hb)
      replace C7 := Lib.hid ((Bset (j := 13) (v := .pointer (some ⟨fb, 0, none⟩)) C7.out (Nat.le_of_eq HSB.out.symm)).trans (hb.mono (by simpa using C7.out.size)))
      clear ho how hb s0 s1 s2 s3 s4 s5 s6 s7 s8 s9 s10 s11 s12 s13 s14 fs
      obtain ⟨s0, s1, s2, s3, s4, s5, s6, s7, s8, s9, s10, s11, s12, s13, s14, fs⟩ := HS.out.c15
      obtain ⟨b0, b1, b2, _⟩ := (HN.out.up C7.out).cells
      have hne1 : w.heap.size ≠ sb := (by have := HN.out.k.lt; have := HSB.out; omega)
      have hne2 : sb ≠ w.heap.size := fun h => hne1 h.symm
      go_wp2_with fail
      have HSZ9 := Lib.hid HS.out.lt
      replace C7 := Lib.hid (Bset (j := 14) (v := .pointer (some ⟨ob, 0, none⟩)) C7.out (Nat.le_of_eq HSB.out.symm))
      refine (graph_OutO t _ _ _ _ v _ (HN.out.up C7.out).b.ta (by omega)).mono ?_
      rintro e w10 ⟨vo, rfl, hvo, hb⟩
      replace HS := Lib.hid ((HS.out.set 14 (.pointer (some ⟨ob, 0, none⟩)) rfl).up hb)
      replace HF := Lib.hid ((HF.out.other (c := sb) (j := 14) (by have := HFW.out; have := HSZ.out; omega) (.pointer (some ⟨ob, 0, none⟩))).up hb)
      replace HNB := Lib.hid ((HNB.out.kept (Below.heap_setCell _ ⟨sb, 14, none⟩ _ _ (by have := HNW.out; have := HSZ.out; show nb ≠ sb; omega))).up hb)
      replace HO := Lib.hid ((HO.out.other (c := sb) (j := 14) (by have := HOW.out; have := HSZ8.out; (try simp at *); omega) (.pointer (some ⟨ob, 0, none⟩))).up hb)
      replace C7 := Lib.hid (C7.out.trans (hb.mono C7.out.size))
      have HVO := Lib.hid hvo
      obtain ⟨Ao, co, rfl, ho1, ho2, ho3⟩ := rd_of_own hvo
      clear hvo hb ho3 s0 s1 s2 s3 s4 s5 s6 s7 s8 s9 s10 s11 s12 s13 s14 fs b0 b1 b2
      go_wp2_with fail
      obtain ⟨arcs, harcs⟩ : ∃ arcs, arcs = ups (outP t v) (2 * t.ls.length) := ⟨_, rfl⟩
      have HAR := Lib.hid harcs
      rw [← harcs] at HVO ⊢
      clear harcs ho1 ho2
      have HW10 := Lib.hid (Nat.le_refl w10.heap.size)
      go_loopw [14, 73] (fun _ i wr => ∃ (k : Nat) (p : Value), k ≤ arcs.length ∧ i = .int .i64 k ∧ Hid (Kp [sb] w10 wr) ∧ Hid (Bl 160 sb #[.int .i64 t.n, .slice B1 t.ov.length d1, .slice B2 t.ls.length d2, .int .i64 v, .int .i64 bt, .int .i64 h1, .int .i64 h2, .int .i64 h3, .int .i64 0, p, .bool (over t v), .slice none 0 0, .pointer (some ⟨db, 0, none⟩), .pointer (some ⟨fb, 0, none⟩), .pointer (some ⟨ob, 0, none⟩)] wr) ∧ Hid (wr.ownsRow w10.heap.size 170 6 p k (((arcs.take k).map (portOf t)).flatMap portV))) (fun _ i _ => arcs.length - (intOf i).toNat)
      case atStart => exact ⟨0, _, Nat.zero_le _, rfl, Lib.hid (Kp.refl _ _), HS, Lib.hid (World.ownsRow_nil _ _ _ _)⟩
      case round =>
        obtain ⟨k, p, hk, rfl, HK, HSR, HPR⟩ := hrel
        have HT := Lib.hid ((HN.out.up (Kp.below HK.out C7.out C7.out.size (by simp; exact Nat.le_of_eq HSB.out.symm))).b)
        have hsw := HSR.out.lt
        by_cases hlt : k < arcs.length
        · obtain ⟨Az, cz, ez, _, _, hrd⟩ := rd_of_own (own_kp HVO.out HK.out (by have := HSZ9.out; (try simp); omega))
          injection ez with ez _ _
          subst ez
          obtain ⟨bz, oz, a, rfl, haz, caz⟩ := ints_at hrd hlt
          have HAZ := Lib.hid haz
          have ha := arc_bd (by rw [← HAR.out]; exact haz)
          have ha0 := ha.1
          have ha1 := ha.2
          have hlt' : (k : Int) < (arcs.length : Int) := by omega
          clear hrd haz ha
          obtain ⟨i0, hi, hz0, hz1, hz2⟩ := info_parts portInfo
          have HKL : Hid (k ≤ 2000) := Lib.hid (by have := ups_le (outP t v) (2 * t.ls.length); have := HAR.out; subst this; omega)
          have HSW : Hid (sb < w10.heap.size) := Lib.hid HS.out.lt
          have HWW : Hid (w.heap.size < w10.heap.size) := Lib.hid (by have := HN.out.k.lt; have := C7.out.size; omega)
          go_upto_region 17 with fail
          refine wp_region_held_drew (S := (fun w' => w'.cell? ⟨w.heap.size, 0, none⟩ = some (.int .i64 t.n) ∧ w'.cell? ⟨w.heap.size, 1, none⟩ = some (.slice A1 t.ov.length c1) ∧ w'.cell? ⟨w.heap.size, 2, none⟩ = some (.slice A2 t.ls.length c2))) (by kernel_rfl) ?_ (fun hHeld => ?_)
          · exact HT.out.cells
          have HTd := Lib.hid (HT.out.up (Bdrw (Below.refl _ _)))
          have HKd := Lib.hid HK.out.drew
          have HSd := Lib.hid (HSR.out.up (Bdrw (Below.refl _ _)))
          have HPd := Lib.hid (own_up HPR.out (Bdrw (Below.refl _ _)))
          clear HT HK HSR HPR hsw caz
          generalize wr.drew = W11 at hHeld HTd HKd HSd HPd ⊢
          have HT := HTd
          have HK := HKd
          have HSR := HSd
          have HPR := HPd
          clear HTd HKd HSd HPd
          have s9 := HSR.out.c15.2.2.2.2.2.2.2.2.2.1
          repeat' (first | ((first | (refine takeL (i := 0) (v := ?_) rfl (by kernel_rfl) (by decide +kernel) (by decide +kernel) (fun _ _ _ h => h) (Or.inl ⟨by rfl, ?_⟩) (by assumption) ?_; rotate_left; (focus (intro w9 hS9; (try dsimp only at hS9); go_simp; (try with_reducible rfl); done))) | (refine takeL (i := 1) (v := ?_) rfl (by kernel_rfl) (by decide +kernel) (by decide +kernel) (fun _ _ _ h => h) (Or.inl ⟨by rfl, ?_⟩) (by assumption) ?_; rotate_left; (focus (intro w9 hS9; (try dsimp only at hS9); go_simp; (try with_reducible rfl); done))) | (refine takeL (i := 2) (v := ?_) rfl (by kernel_rfl) (by decide +kernel) (by decide +kernel) (fun _ _ _ h => h) (Or.inl ⟨by rfl, ?_⟩) (by assumption) ?_; rotate_left; (focus (intro w9 hS9; (try dsimp only at hS9); go_simp; (try with_reducible rfl); done))) | (refine takeL (i := 3) (v := ?_) rfl (by kernel_rfl) (by decide +kernel) (by decide +kernel) (fun _ _ _ h => h) (Or.inl ⟨by rfl, ?_⟩) (by assumption) ?_; rotate_left; (focus (intro w9 hS9; (try dsimp only at hS9); go_simp; (try with_reducible rfl); done))) | (refine takeL (i := 4) (v := ?_) rfl (by kernel_rfl) (by decide +kernel) (by decide +kernel) (fun _ _ _ h => h) (Or.inl ⟨by rfl, ?_⟩) (by assumption) ?_; rotate_left; (focus (intro w9 hS9; (try dsimp only at hS9); go_simp; (try with_reducible rfl); done))) | (refine takeL (i := 5) (v := ?_) rfl (by kernel_rfl) (by decide +kernel) (by decide +kernel) (fun _ _ _ h => h) (Or.inl ⟨by rfl, ?_⟩) (by assumption) ?_; rotate_left; (focus (intro w9 hS9; (try dsimp only at hS9); go_simp; (try with_reducible rfl); done))) | (refine takeL (i := 6) (v := ?_) rfl (by kernel_rfl) (by decide +kernel) (by decide +kernel) (fun _ _ _ h => h) (Or.inl ⟨by rfl, ?_⟩) (by assumption) ?_; rotate_left; (focus (intro w9 hS9; (try dsimp only at hS9); go_simp; (try with_reducible rfl); done))) | (refine takeL (i := 7) (v := ?_) rfl (by kernel_rfl) (by decide +kernel) (by decide +kernel) (fun _ _ _ h => h) (Or.inl ⟨by rfl, ?_⟩) (by assumption) ?_; rotate_left; (focus (intro w9 hS9; (try dsimp only at hS9); go_simp; (try with_reducible rfl); done))) | (refine takeL (i := 8) (v := ?_) rfl (by kernel_rfl) (by decide +kernel) (by decide +kernel) (fun _ _ _ h => h) (Or.inl ⟨by rfl, ?_⟩) (by assumption) ?_; rotate_left; (focus (intro w9 hS9; (try dsimp only at hS9); go_simp; (try with_reducible rfl); done))) | (refine takeL (i := 9) (v := ?_) rfl (by kernel_rfl) (by decide +kernel) (by decide +kernel) (fun _ _ _ h => h) (Or.inl ⟨by rfl, ?_⟩) (by assumption) ?_; rotate_left; (focus (intro w9 hS9; (try dsimp only at hS9); go_simp; (try with_reducible rfl); done))) | (refine takeL (i := 10) (v := ?_) rfl (by kernel_rfl) (by decide +kernel) (by decide +kernel) (fun _ _ _ h => h) (Or.inl ⟨by rfl, ?_⟩) (by assumption) ?_; rotate_left; (focus (intro w9 hS9; (try dsimp only at hS9); go_simp; (try with_reducible rfl); done))) | (refine takeL (i := 11) (v := ?_) rfl (by kernel_rfl) (by decide +kernel) (by decide +kernel) (fun _ _ _ h => h) (Or.inl ⟨by rfl, ?_⟩) (by assumption) ?_; rotate_left; (focus (intro w9 hS9; (try dsimp only at hS9); go_simp; (try with_reducible rfl); done))) | (refine takeL (i := 12) (v := ?_) rfl (by kernel_rfl) (by decide +kernel) (by decide +kernel) (fun _ _ _ h => h) (Or.inl ⟨by rfl, ?_⟩) (by assumption) ?_; rotate_left; (focus (intro w9 hS9; (try dsimp only at hS9); go_simp; (try with_reducible rfl); done))) | (refine takeL (i := 13) (v := ?_) rfl (by kernel_rfl) (by decide +kernel) (by decide +kernel) (fun _ _ _ h => h) (Or.inl ⟨by rfl, ?_⟩) (by assumption) ?_; rotate_left; (focus (intro w9 hS9; (try dsimp only at hS9); go_simp; (try with_reducible rfl); done))) | (refine takeL (i := 14) (v := ?_) rfl (by kernel_rfl) (by decide +kernel) (by decide +kernel) (fun _ _ _ h => h) (Or.inl ⟨by rfl, ?_⟩) (by assumption) ?_; rotate_left; (focus (intro w9 hS9; (try dsimp only at hS9); go_simp; (try with_reducible rfl); done))) | (refine takeL (i := 15) (v := ?_) rfl (by kernel_rfl) (by decide +kernel) (by decide +kernel) (fun _ _ _ h => h) (Or.inl ⟨by rfl, ?_⟩) (by assumption) ?_; rotate_left; (focus (intro w9 hS9; (try dsimp only at hS9); go_simp; (try with_reducible rfl); done))) | (refine takeL (i := 16) (v := ?_) rfl (by kernel_rfl) (by decide +kernel) (by decide +kernel) (fun _ _ _ h => h) (Or.inl ⟨by rfl, ?_⟩) (by assumption) ?_; rotate_left; (focus (intro w9 hS9; (try dsimp only at hS9); go_simp; (try with_reducible rfl); done))) | (refine takeL (i := 17) (v := ?_) rfl (by kernel_rfl) (by decide +kernel) (by decide +kernel) (fun _ _ _ h => h) (Or.inl ⟨by rfl, ?_⟩) (by assumption) ?_; rotate_left; (focus (intro w9 hS9; (try dsimp only at hS9); go_simp; (try with_reducible rfl); done))) | (refine takeL (i := 18) (v := ?_) rfl (by kernel_rfl) (by decide +kernel) (by decide +kernel) (fun _ _ _ h => h) (Or.inl ⟨by rfl, ?_⟩) (by assumption) ?_; rotate_left; (focus (intro w9 hS9; (try dsimp only at hS9); go_simp; (try with_reducible rfl); done))) | fail); (try simp only [Act.put, List.setIfInBounds_toArray, List.set_cons_zero, List.set_cons_succ])) | ((first | (refine wpAnyH_ready (rs := [4, 9]) (by decide +kernel) (by simp) ?_; refine consL rfl (fun K hK => ?_) ?_; rotate_left; refine consL rfl (fun K hK => ?_) ?_; rotate_left; exact AllReadyH.nil) | (refine wpAnyH_ready (rs := [9]) (by decide +kernel) (by simp) ?_; refine consL rfl (fun K hK => ?_) ?_; rotate_left; exact AllReadyH.nil) | (refine wpAnyH_ready (rs := [4, 12]) (by decide +kernel) (by simp) ?_; refine consL rfl (fun K hK => ?_) ?_; rotate_left; refine consL rfl (fun K hK => ?_) ?_; rotate_left; exact AllReadyH.nil) | (refine wpAnyH_ready (rs := [12]) (by decide +kernel) (by simp) ?_; refine consL rfl (fun K hK => ?_) ?_; rotate_left; exact AllReadyH.nil) | (refine wpAnyH_ready (rs := [4, 14]) (by decide +kernel) (by simp) ?_; refine consL rfl (fun K hK => ?_) ?_; rotate_left; refine consL rfl (fun K hK => ?_) ?_; rotate_left; exact AllReadyH.nil) | (refine wpAnyH_ready (rs := [14]) (by decide +kernel) (by simp) ?_; refine consL rfl (fun K hK => ?_) ?_; rotate_left; exact AllReadyH.nil) | (refine wpAnyH_ready (rs := [4]) (by decide +kernel) (by simp) ?_; refine consL rfl (fun K hK => ?_) ?_; rotate_left; exact AllReadyH.nil) | (refine wpAnyH_ready (rs := [15]) (by decide +kernel) (by simp) ?_; refine consL rfl (fun K hK => ?_) ?_; rotate_left; exact AllReadyH.nil) | (refine wpAnyH_ready (rs := [18]) (by decide +kernel) (by simp) ?_; refine consL rfl (fun K hK => ?_) ?_; rotate_left; exact AllReadyH.nil) | fail); all_goals ((first | (go_at_call 76; (with_reducible refine (graph_Head _ _ _ _ t _ _ HT.out.ta.ls ha0 ha1 (by omega)).mono ?_); rintro e w11 ⟨rfl, hb⟩; have HMB := Lib.hid hb; replace HT := Lib.hid (HT.out.up hb); replace HK := Lib.hid (HK.out.next hb); replace HSR := Lib.hid (HSR.out.up hb); replace HPR := Lib.hid (own_up HPR.out hb); (try replace s9 := cell_up hb s9); (try clear q1 q2 q3); have q1 := HSR.out.lt; have q2 := Nat.ne_of_lt q1; have q3 := Nat.ne_of_gt q1; clear hb) | (go_at_call 77; (with_reducible refine (graph_Cost _ _ _ _ t _ _ HT.out.ta.ls ha0 ha1 (by omega)).mono ?_); rintro e w12 ⟨rfl, hb⟩; have HMB := Lib.hid hb; replace HT := Lib.hid (HT.out.up hb); replace HK := Lib.hid (HK.out.next hb); replace HSR := Lib.hid (HSR.out.up hb); replace HPR := Lib.hid (own_up HPR.out hb); (try replace s9 := cell_up hb s9); (try clear q1 q2 q3); have q1 := HSR.out.lt; have q2 := Nat.ne_of_lt q1; have q3 := Nat.ne_of_gt q1; clear hb) | (refine step_append_lies _ rfl _ _ 155 rfl w10.heap.size 170 i0 (.agg #[.int .i64 0, .int .i64 0, .int .i64 0, .int .i64 0, .int .i64 0, .int .i64 0]) 6 48 Tryz.underlying155 hi hz0 hz1 hz2 rfl (by decide) _ _ _ rfl (HPR.out.alloc _) ⟨w12.heap.size, 0, none⟩ 1 1 (portV (portOf t a)) rfl rfl (World.news_of_block (heap_alloc_new w12 _)) (port_one _) (by decide) (by have := HKL.out; unfold maxLen; omega) (by have := HKL.out; omega) (Nat.le_trans HK.out.size (by simp)) _ rfl ?_; intro g cap W5 ap1 ap2 ap3 ap4; have HS5 := HSR.out.up (below_box w12 (.cells #[.int .i64 (IntKind.i64.wrap (a.tdiv 2)), .int .i64 (head t a), .int .i64 (cost t a), .int .i64 0, .int .i64 0, .int .i64 0] 170)); have hbn := own_ne HPR.out HSW.out; have m9 : W5.cell? ⟨sb, 9, none⟩ = some p := (ap2.cell_far ⟨sb, 9, none⟩ HS5.lt (fun e => hbn e.symm)).trans HS5.c15.2.2.2.2.2.2.2.2.2.1; have m0 : W5.frozen? ⟨sb, 9, none⟩ = false := (ap2.frozen_far ⟨sb, 9, none⟩ HS5.lt (fun e => hbn e.symm)).trans (HS5.frz 9); have HA1 := Lib.hid ap1; have HA2 := Lib.hid ap2; have hbw := own_ne HPR.out HWW.out) | (go_simp; first | done | (first | (go_at_call 76; (with_reducible refine (graph_Head _ _ _ _ t _ _ HT.out.ta.ls ha0 ha1 (by omega)).mono ?_); rintro e w11 ⟨rfl, hb⟩; have HMB := Lib.hid hb; replace HT := Lib.hid (HT.out.up hb); replace HK := Lib.hid (HK.out.next hb); replace HSR := Lib.hid (HSR.out.up hb); replace HPR := Lib.hid (own_up HPR.out hb); (try replace s9 := cell_up hb s9); (try clear q1 q2 q3); have q1 := HSR.out.lt; have q2 := Nat.ne_of_lt q1; have q3 := Nat.ne_of_gt q1; clear hb) | (go_at_call 77; (with_reducible refine (graph_Cost _ _ _ _ t _ _ HT.out.ta.ls ha0 ha1 (by omega)).mono ?_); rintro e w12 ⟨rfl, hb⟩; have HMB := Lib.hid hb; replace HT := Lib.hid (HT.out.up hb); replace HK := Lib.hid (HK.out.next hb); replace HSR := Lib.hid (HSR.out.up hb); replace HPR := Lib.hid (own_up HPR.out hb); (try replace s9 := cell_up hb s9); (try clear q1 q2 q3); have q1 := HSR.out.lt; have q2 := Nat.ne_of_lt q1; have q3 := Nat.ne_of_gt q1; clear hb) | (refine step_append_lies _ rfl _ _ 155 rfl w10.heap.size 170 i0 (.agg #[.int .i64 0, .int .i64 0, .int .i64 0, .int .i64 0, .int .i64 0, .int .i64 0]) 6 48 Tryz.underlying155 hi hz0 hz1 hz2 rfl (by decide) _ _ _ rfl (HPR.out.alloc _) ⟨w12.heap.size, 0, none⟩ 1 1 (portV (portOf t a)) rfl rfl (World.news_of_block (heap_alloc_new w12 _)) (port_one _) (by decide) (by have := HKL.out; unfold maxLen; omega) (by have := HKL.out; omega) (Nat.le_trans HK.out.size (by simp)) _ rfl ?_; intro g cap W5 ap1 ap2 ap3 ap4; have HS5 := HSR.out.up (below_box w12 (.cells #[.int .i64 (IntKind.i64.wrap (a.tdiv 2)), .int .i64 (head t a), .int .i64 (cost t a), .int .i64 0, .int .i64 0, .int .i64 0] 170)); have hbn := own_ne HPR.out HSW.out; have m9 : W5.cell? ⟨sb, 9, none⟩ = some p := (ap2.cell_far ⟨sb, 9, none⟩ HS5.lt (fun e => hbn e.symm)).trans HS5.c15.2.2.2.2.2.2.2.2.2.1; have m0 : W5.frozen? ⟨sb, 9, none⟩ = false := (ap2.frozen_far ⟨sb, 9, none⟩ HS5.lt (fun e => hbn e.symm)).trans (HS5.frz 9); have HA1 := Lib.hid ap1; have HA2 := Lib.hid ap2; have hbw := own_ne HPR.out HWW.out))) | go_simp); (first | (with_reducible refine hK.out _ _ ?_ ?_) | (go_wp2_with fail; refine hK.out _ _ ?_ ?_)); (focus (first | with_reducible exact hHeld | exact t3_up (below_box _ _) hHeld | exact t3_up HMB.out hHeld | exact t3_grown HA2.out (fun e => hbw e.symm) hHeld | exact t3_set hne2 hHeld)); clear hK K hHeld; intro hHeld; (try simp only [Act.put, List.setIfInBounds_toArray, List.set_cons_zero, List.set_cons_succ]))) | (refine wpAnyH_done (by decide +kernel) ?_ _) | fail)
          all_goals
            have hk2 : k ≤ 2000 := HKL.out
            go_wp2_with fail
            go_roundw
            case rel => exact ⟨k + 1, by omega, by go_num, Lib.hid (Kset (Kp.grown (HK.out.alloc _) HA2.out (fun b e => .inr (HPR.out.lt b e).1)) (.inl (by simp))), _, Lib.hid (((HSR.out.up (below_box w12 _)).grown HA2.out (fun e => hbn e.symm)).set 9 _ rfl), Lib.hid (by rw [← List.map_take, take_ports HAZ.out]; exact own_setCell HA1.out (fun e => by have := (HA1.out.lt _ e).1; have := HSW.out; omega) _)⟩
            case measure => simp [intOf]; omega
        · obtain rfl : k = arcs.length := by omega
          have hp := HPR.out
          rw [List.take_length] at hp
          obtain ⟨Ap, cp, rfl, hp1, hp2, hp3⟩ := rd_of_ownK hp
          have HP3 := Lib.hid hp3
          have HB0 := Lib.hid (Kp.below HK.out C7.out C7.out.size (by simp; exact Nat.le_of_eq HSB.out.symm))
          have HD2 := Lib.hid ((HD.out.up C7.out).kp HK.out (by have := HD.out.lt; have := HSB.out; simp; omega))
          have HM2 := Lib.hid ((HM.out.up C7.out).kp HK.out (by have := HM.out.lt; have := HSB.out; simp; omega))
          have HF2 := Lib.hid (HF.out.kp HK.out (by have := HFW.out; have := HSZ.out; simp; omega))
          have HN2 := Lib.hid (HNB.out.kp HK.out (by have := HNW.out; have := HSZ.out; simp; omega))
          have HO2 := Lib.hid (HO.out.kp HK.out (by have := HOW.out; have := HSZ8.out; (try simp at *); omega))
          have HL : Hid ((arcs.map (portOf t)).length ≤ 1000) := Lib.hid (by have := ups_le (outP t v) (2 * t.ls.length); have := valid_ls hv; have := HAR.out; subst this; simp; omega)
          have HLM : (arcs.map (portOf t)).length = arcs.length := List.length_map _
          have HPT : Hid (Pts sb db mb fb nb ob h3 (.int .i64 t.n) (.slice B1 t.ov.length d1) (.slice B2 t.ls.length d2) (.int .i64 v) (.int .i64 bt) (.int .i64 h1) (.int .i64 h2) (.int .i64 h3) (.int .i64 0) (.slice Ap (arcs.map (portOf t)).length cp) (.bool (over t v)) (.slice none 0 0) wr) := Lib.hid ⟨by rw [HLM]; exact HSR.out, HD2.out, HF2.out, HN2.out, (HM2.out.ne_bl HD2.out).symm, (HM2.out.ne_bl HF2.out).symm, (by have := HNW.out; have := HSZ.out; have := HSB.out; have := HM.out.lt; omega), (HM2.out.ne_bl HSR.out).symm, (HM2.out.ne_bl HO2.out).symm, HD2.out.ne HO2.out (by simp), HF2.out.ne HO2.out (by simp), HN2.out.ne_bl HO2.out, HSR.out.ne HO2.out (by simp)⟩
          have HOB : Hid (w6.heap.size ≤ ob) := Lib.hid (by have := HOW.out; have := HSZ8.out; have := HSB.out; have := H6.out.size; (try simp at *); omega)
          clear hp hp1 hp2 hp3 hlt HLM
          go_wp2_with (go_at_call 78; (with_reducible refine (speaker_originate0 v (over t v) Ap cp (arcs.map (portOf t)) H64.out HL.out HP3.out HPT.out HM2.out HO2.out).mono ?_); rintro e w20 ⟨rfl, hm20, hk20⟩; have HM20 := Lib.hid hm20; have HK20 := Lib.hid hk20; clear hm20 hk20)
          go_ret2
          have n1 : sb ∉ [mb, ob] := by have := HPT.out.ne; simp; omega
          have n2 : db ∉ [mb, ob] := by have := HPT.out.ne; simp; omega
          have hb6 : Below w6.heap.size w6 w20 := HK20.out.below (H6.out.trans (HB0.out.mono H6.out.size)) (Nat.le_trans H6.out.size HB0.out.size) (by have := HM6.out; have := HOB.out; simp; omega)
          exact ⟨⟨sb, rfl, db, mb, B1, B2, d1, d2, _, _, _, _, _, _, _, _, _, _, _, HPT.out.s.kp HK20.out n1, HC6.out.below hb6, HD2.out.kp HK20.out n2, HM20.out⟩, HK20.out.below (below_next HN.out.b.hb HB0.out) (by have := HN.out.b.hb.size; have := HB0.out.size; omega) (by have := HMW.out; have := HOB.out; have := HN6.out; simp; omega)⟩
end
end Go.Proofs.YtenhliibmcmnbaaGreat
