/-
  speaker.New: the speaker of a node (printed by gen_rti.py).
  waypointlaw53.RouterNew holds: the walk.
  What network.look reads of a fresh router: lsdb.All, Database, View; network.look.
-/
import Derived.Test.YtenhliibmcmnbaaGreatPkRtL
import Derived.Test.YtenhliibmcmnbaaGreatPkRtE
import Derived.Test.YtenhliibmcmnbaaGreatPkRtQ
import Derived.Test.YtenhliibmcmnbaaGreatPkNvA
import Derived.Test.YtenhliibmcmnbaaGreatPkNvE
import Derived.Deep.AppendLies
namespace Go.Proofs.YtenhliibmcmnbaaGreat
set_option linter.unusedSimpArgs false
set_option linter.unusedVariables false
open Go.RowKit Go.Sort
section
variable {w : World} {A1 A2 : Option Addr} {t : Topo}
theorem n6_up {w5 w' : World} {c1 c2 : Nat} {h1 h2 h3 : Int} (hb : Below w5.heap.size w5 w') (h : (w5.cell? ⟨w.heap.size, 0, none⟩ = some (.int .i64 t.n) ∧ w5.cell? ⟨w.heap.size, 1, none⟩ = some (.slice A1 t.ov.length c1) ∧ w5.cell? ⟨w.heap.size, 2, none⟩ = some (.slice A2 t.ls.length c2) ∧ w5.cell? ⟨w.heap.size + 1, 0, none⟩ = some (.int .i64 h1) ∧ w5.cell? ⟨w.heap.size + 1, 1, none⟩ = some (.int .i64 h2) ∧ w5.cell? ⟨w.heap.size + 1, 2, none⟩ = some (.int .i64 h3))) : (w'.cell? ⟨w.heap.size, 0, none⟩ = some (.int .i64 t.n) ∧ w'.cell? ⟨w.heap.size, 1, none⟩ = some (.slice A1 t.ov.length c1) ∧ w'.cell? ⟨w.heap.size, 2, none⟩ = some (.slice A2 t.ls.length c2) ∧ w'.cell? ⟨w.heap.size + 1, 0, none⟩ = some (.int .i64 h1) ∧ w'.cell? ⟨w.heap.size + 1, 1, none⟩ = some (.int .i64 h2) ∧ w'.cell? ⟨w.heap.size + 1, 2, none⟩ = some (.int .i64 h3)) := ⟨cell_up hb h.1, cell_up hb h.2.1, cell_up hb h.2.2.1, cell_up hb h.2.2.2.1, cell_up hb h.2.2.2.2.1, cell_up hb h.2.2.2.2.2⟩
theorem n6_box {w5 : World} (o : Obj) {c1 c2 : Nat} {h1 h2 h3 : Int} (h : (w5.cell? ⟨w.heap.size, 0, none⟩ = some (.int .i64 t.n) ∧ w5.cell? ⟨w.heap.size, 1, none⟩ = some (.slice A1 t.ov.length c1) ∧ w5.cell? ⟨w.heap.size, 2, none⟩ = some (.slice A2 t.ls.length c2) ∧ w5.cell? ⟨w.heap.size + 1, 0, none⟩ = some (.int .i64 h1) ∧ w5.cell? ⟨w.heap.size + 1, 1, none⟩ = some (.int .i64 h2) ∧ w5.cell? ⟨w.heap.size + 1, 2, none⟩ = some (.int .i64 h3))) : ((w5.alloc o).cell? ⟨w.heap.size, 0, none⟩ = some (.int .i64 t.n) ∧ (w5.alloc o).cell? ⟨w.heap.size, 1, none⟩ = some (.slice A1 t.ov.length c1) ∧ (w5.alloc o).cell? ⟨w.heap.size, 2, none⟩ = some (.slice A2 t.ls.length c2) ∧ (w5.alloc o).cell? ⟨w.heap.size + 1, 0, none⟩ = some (.int .i64 h1) ∧ (w5.alloc o).cell? ⟨w.heap.size + 1, 1, none⟩ = some (.int .i64 h2) ∧ (w5.alloc o).cell? ⟨w.heap.size + 1, 2, none⟩ = some (.int .i64 h3)) := n6_up (below_box w5 o) h
theorem own_kp {w w' : World} {B : Nat} {E : TypeId} {size : Nat} {v : Value} {n : Nat} {xs : List Value} {sb : Nat} (h : w.ownsRow B E size v n xs) (hk : Kp [sb] w w') (hs : sb < B) : w'.ownsRow B E size v n xs := by
 rcases h with ⟨hl, h0 | ⟨g, cap, cur, hv, hB, hg, rest⟩⟩
 ·exact ⟨hl, .inl h0⟩
 ·exact ⟨hl, .inr ⟨g, cap, cur, hv, hB, (hk.blk g (Array.getElem?_eq_some_iff.1 hg).1 (by simp; omega)).trans hg, rest⟩⟩
theorem arc_bd {t : Topo} {v a : Int} {k : Nat} (h : (ups (outP t v) (2 * t.ls.length))[k]? = some a) : 0 ≤ a ∧ a < 2 * (t.ls.length : Int) := by
 have := mem_ups.1 (List.mem_of_getElem? h)
 omega
theorem t3_up {w w5 w' : World} {A1 A2 : Option Addr} {t : Topo} {c1 c2 : Nat} (hb : Below w5.heap.size w5 w') (h : w5.cell? ⟨w.heap.size, 0, none⟩ = some (.int .i64 t.n) ∧ w5.cell? ⟨w.heap.size, 1, none⟩ = some (.slice A1 t.ov.length c1) ∧ w5.cell? ⟨w.heap.size, 2, none⟩ = some (.slice A2 t.ls.length c2)) :
  w'.cell? ⟨w.heap.size, 0, none⟩ = some (.int .i64 t.n) ∧ w'.cell? ⟨w.heap.size, 1, none⟩ = some (.slice A1 t.ov.length c1) ∧ w'.cell? ⟨w.heap.size, 2, none⟩ = some (.slice A2 t.ls.length c2) := ⟨cell_up hb h.1, cell_up hb h.2.1, cell_up hb h.2.2⟩
theorem t3_grown {w w5 w' : World} {A1 A2 : Option Addr} {t : Topo} {c1 c2 : Nat} {r : Option Nat} (hg : w5.grownBy w' r) (hne : some w.heap.size ≠ r) (h : w5.cell? ⟨w.heap.size, 0, none⟩ = some (.int .i64 t.n) ∧ w5.cell? ⟨w.heap.size, 1, none⟩ = some (.slice A1 t.ov.length c1) ∧ w5.cell? ⟨w.heap.size, 2, none⟩ = some (.slice A2 t.ls.length c2)) :
  w'.cell? ⟨w.heap.size, 0, none⟩ = some (.int .i64 t.n) ∧ w'.cell? ⟨w.heap.size, 1, none⟩ = some (.slice A1 t.ov.length c1) ∧ w'.cell? ⟨w.heap.size, 2, none⟩ = some (.slice A2 t.ls.length c2) :=
 ⟨(hg.cell_far ⟨w.heap.size, 0, none⟩ (block_lt_of_cell h.1) hne).trans h.1, (hg.cell_far ⟨w.heap.size, 1, none⟩ (block_lt_of_cell h.2.1) hne).trans h.2.1, (hg.cell_far ⟨w.heap.size, 2, none⟩ (block_lt_of_cell h.2.2) hne).trans h.2.2⟩
theorem t3_set {w w5 : World} {A1 A2 : Option Addr} {t : Topo} {c1 c2 sb j : Nat} {u : Value} (hne : sb ≠ w.heap.size) (h : w5.cell? ⟨w.heap.size, 0, none⟩ = some (.int .i64 t.n) ∧ w5.cell? ⟨w.heap.size, 1, none⟩ = some (.slice A1 t.ov.length c1) ∧ w5.cell? ⟨w.heap.size, 2, none⟩ = some (.slice A2 t.ls.length c2)) :
  (w5.setCell ⟨sb, j, none⟩ u).cell? ⟨w.heap.size, 0, none⟩ = some (.int .i64 t.n) ∧ (w5.setCell ⟨sb, j, none⟩ u).cell? ⟨w.heap.size, 1, none⟩ = some (.slice A1 t.ov.length c1) ∧ (w5.setCell ⟨sb, j, none⟩ u).cell? ⟨w.heap.size, 2, none⟩ = some (.slice A2 t.ls.length c2) := by
 have e : ∀ i, (w5.setCell ⟨sb, j, none⟩ u).cell? ⟨w.heap.size, i, none⟩ = w5.cell? ⟨w.heap.size, i, none⟩ := fun i => World.cell?_setCell_other w5 _ _ _ (fun e => hne (by injection e))
 exact ⟨(e 0).trans h.1, (e 1).trans h.2.1, (e 2).trans h.2.2⟩
theorem own_ne {w : World} {B : Nat} {E : TypeId} {size : Nat} {v : Value} {n : Nat} {xs : List Value} {c : Nat} (h : w.ownsRow B E size v n xs) (hc : c < B) : v.ownBlock ≠ some c := fun e => by
 have := (h.lt _ e).1
 omega
/-- The port of an arc. -/
def portOf (t : Topo) (a : Int) : Int × Int × Int := (IntKind.i64.wrap (a.tdiv 2), head t a, cost t a)
theorem port_one (p : Int × Int × Int) : ∀ u ∈ portV p, u.oneCell' = true := by
 intro u hu
 simp [portV] at hu
 rcases hu with rfl | rfl | rfl | rfl <;> rfl
theorem take_ports {t : Topo} {arcs : List Int} {k : Nat} {a : Int} (h : arcs[k]? = some a) : ((arcs.take (k + 1)).map (portOf t)).flatMap portV = ((arcs.take k).map (portOf t)).flatMap portV ++ portV (portOf t a) := by
 rw [List.take_add_one, h]
 simp
theorem portInfo : (Tryz.prog.info? 170).map (fun i => (i.zero, i.size, i.bytes)) = some (some (.agg #[.int .i64 0, .int .i64 0, .int .i64 0, .int .i64 0, .int .i64 0, .int .i64 0]), 6, 48) := by kernel_rfl
set_option maxRecDepth 100000 in
set_option maxHeartbeats 8000000 in
theorem speaker_New_ok (c1 c2 : Nat) (v bt h1 h2 h3 : Int) (hT : TAt w A1 A2 t) (hv : valid t = true) (hx : inR bt 1 1073741824 = true) (e1 : inR h1 1 65536 = true) (e2 : inR h2 1 65536 = true) (e3 : inR h3 1 65536 = true) (hn : isN t.n v = true) :
  Calls Tryz.prog 33 #[.agg #[.int .i64 t.n, .slice A1 t.ov.length c1, .slice A2 t.ls.length c2], .int .i64 v, .int .i64 bt, .agg #[.int .i64 h1, .int .i64 h2, .int .i64 h3]] w fun e w' => (∃ sb, e = .returned (.tuple #[.pointer (some ⟨sb, 0, none⟩), .int .i64 0]) ∧ SpkAt t v sb w') ∧ Below w.heap.size w w' := by
 have HN := Lib.hid (NBox.start c1 c2 h1 h2 h3 hT)
 obtain ⟨b0, b1, b2, k0, k1, k2⟩ := HN.out.cells
 have hx0 := idx3_0
 have hx1 := idx3_1
 have hx2 := idx3_2
 have hN := isN_true.1 hn
 have hv0 := hN.1
 have hvn := valid_n hv
 have hov0 := valid_ov hv
 have hln : t.ls.length ≤ 1000 := by have := valid_ls hv; omega
 have hov : t.ov.length ≤ 1000 := by rcases hov0 with h | h <;> omega
 have hov2 : t.ov.length = 0 ∨ v < (t.ov.length : Int) := by rcases hov0 with h | h; exact .inl h; exact .inr (by omega)
 clear hT hN hvn hov0
 go_enter Tryz.func33, Tryz.ntmps33
 go_wp2_with (first | (go_at_call 54; refine (topology_Valid t _ _ _ _ _ HN.out.b.ta.ls).mono ?_; rw [hv]; rintro e w1 ⟨rfl, hb⟩; replace HN := Lib.hid (HN.out.up hb); clear hb b0 b1 b2 k0 k1 k2; obtain ⟨b0, b1, b2, k0, k1, k2⟩ := HN.out.cells) | (go_at_call 70; refine (speaker_within _ _ _ _).mono ?_; rintro e w2 ⟨rfl, rfl⟩))
 go_loopw [30] (fun i wr => ∃ k : Nat, k ≤ 3 ∧ i = .int .i64 k ∧ wr = w1) (fun i _ => 3 - (intOf i).toNat)
 case atStart => exact ⟨0, by omega, rfl, rfl⟩
 case round =>
  obtain ⟨k, hk, rfl, rfl⟩ := hrel
  obtain rfl | rfl | rfl | rfl : k = 0 ∨ k = 1 ∨ k = 2 ∨ k = 3 := by omega
  ·go_wp2_with (go_at_call 70; refine (speaker_within _ _ _ _).mono ?_; rintro e w2 ⟨rfl, rfl⟩)
   go_roundw
   case rel => exact ⟨1, by omega, rfl, by first | exact trivial | rfl⟩
   case measure => simp [intOf]
  ·go_wp2_with (go_at_call 70; refine (speaker_within _ _ _ _).mono ?_; rintro e w2 ⟨rfl, rfl⟩)
   go_roundw
   case rel => exact ⟨2, by omega, rfl, by first | exact trivial | rfl⟩
   case measure => simp [intOf]
  ·go_wp2_with (go_at_call 70; refine (speaker_within _ _ _ _).mono ?_; rintro e w2 ⟨rfl, rfl⟩)
   go_roundw
   case rel => exact ⟨3, by omega, rfl, by first | exact trivial | rfl⟩
   case measure => simp [intOf]
  ·clear hx0 hx1 hx2
   go_wp2_with (go_at_call 67; refine (graph_Node _ _ _ _ _).mono ?_; rw [hn]; rintro e w3 ⟨rfl, hb⟩; replace HN := Lib.hid (HN.out.up hb); clear hb b0 b1 b2 k0 k1 k2)
   refine wp_region_held_drew (S := (fun w' => w'.cell? ⟨w.heap.size, 0, none⟩ = some (.int .i64 t.n) ∧ w'.cell? ⟨w.heap.size, 1, none⟩ = some (.slice A1 t.ov.length c1) ∧ w'.cell? ⟨w.heap.size, 2, none⟩ = some (.slice A2 t.ls.length c2) ∧ w'.cell? ⟨w.heap.size + 1, 0, none⟩ = some (.int .i64 h1) ∧ w'.cell? ⟨w.heap.size + 1, 1, none⟩ = some (.int .i64 h2) ∧ w'.cell? ⟨w.heap.size + 1, 2, none⟩ = some (.int .i64 h3))) (by kernel_rfl) ?_ (fun hHeld => ?_)
   ·exact HN.out.cells
   have HNd := Lib.hid (HN.out.up (Bdrw (Below.refl _ _)))
   clear HN
   generalize w3.drew = W9 at hHeld HNd ⊢
   have HN := HNd
   clear HNd
   repeat' (first | ((first | (refine takeL (i := 0) (v := ?_) rfl (by kernel_rfl) (by decide +kernel) (by decide +kernel) (fun _ _ _ h => h) (Or.inl ⟨by rfl, ?_⟩) (by assumption) ?_; rotate_left; (focus (intro w9 hS9; (try dsimp only at hS9); go_simp; (try with_reducible rfl); done))) | (refine takeL (i := 1) (v := ?_) rfl (by kernel_rfl) (by decide +kernel) (by decide +kernel) (fun _ _ _ h => h) (Or.inl ⟨by rfl, ?_⟩) (by assumption) ?_; rotate_left; (focus (intro w9 hS9; (try dsimp only at hS9); go_simp; (try with_reducible rfl); done))) | (refine takeL (i := 2) (v := ?_) rfl (by kernel_rfl) (by decide +kernel) (by decide +kernel) (fun _ _ _ h => h) (Or.inl ⟨by rfl, ?_⟩) (by assumption) ?_; rotate_left; (focus (intro w9 hS9; (try dsimp only at hS9); go_simp; (try with_reducible rfl); done))) | (refine takeL (i := 3) (v := ?_) rfl (by kernel_rfl) (by decide +kernel) (by decide +kernel) (fun _ _ _ h => h) (Or.inl ⟨by rfl, ?_⟩) (by assumption) ?_; rotate_left; (focus (intro w9 hS9; (try dsimp only at hS9); go_simp; (try with_reducible rfl); done))) | (refine takeL (i := 4) (v := ?_) rfl (by kernel_rfl) (by decide +kernel) (by decide +kernel) (fun _ _ _ h => h) (Or.inl ⟨by rfl, ?_⟩) (by assumption) ?_; rotate_left; (focus (intro w9 hS9; (try dsimp only at hS9); go_simp; (try with_reducible rfl); done))) | (refine takeL (i := 5) (v := ?_) rfl (by kernel_rfl) (by decide +kernel) (by decide +kernel) (fun _ _ _ h => h) (Or.inl ⟨by rfl, ?_⟩) (by assumption) ?_; rotate_left; (focus (intro w9 hS9; (try dsimp only at hS9); go_simp; (try with_reducible rfl); done))) | (refine takeL (i := 6) (v := ?_) rfl (by kernel_rfl) (by decide +kernel) (by decide +kernel) (fun _ _ _ h => h) (Or.inl ⟨by rfl, ?_⟩) (by assumption) ?_; rotate_left; (focus (intro w9 hS9; (try dsimp only at hS9); go_simp; (try with_reducible rfl); done))) | (refine takeL (i := 7) (v := ?_) rfl (by kernel_rfl) (by decide +kernel) (by decide +kernel) (fun _ _ _ h => h) (Or.inl ⟨by rfl, ?_⟩) (by assumption) ?_; rotate_left; (focus (intro w9 hS9; (try dsimp only at hS9); go_simp; (try with_reducible rfl); done))) | (refine takeL (i := 8) (v := ?_) rfl (by kernel_rfl) (by decide +kernel) (by decide +kernel) (fun _ _ _ h => h) (Or.inl ⟨by rfl, ?_⟩) (by assumption) ?_; rotate_left; (focus (intro w9 hS9; (try dsimp only at hS9); go_simp; (try with_reducible rfl); done))) | (refine takeL (i := 9) (v := ?_) rfl (by kernel_rfl) (by decide +kernel) (by decide +kernel) (fun _ _ _ h => h) (Or.inl ⟨by rfl, ?_⟩) (by assumption) ?_; rotate_left; (focus (intro w9 hS9; (try dsimp only at hS9); go_simp; (try with_reducible rfl); done))) | (refine takeL (i := 10) (v := ?_) rfl (by kernel_rfl) (by decide +kernel) (by decide +kernel) (fun _ _ _ h => h) (Or.inl ⟨by rfl, ?_⟩) (by assumption) ?_; rotate_left; (focus (intro w9 hS9; (try dsimp only at hS9); go_simp; (try with_reducible rfl); done))) | (refine takeL (i := 11) (v := ?_) rfl (by kernel_rfl) (by decide +kernel) (by decide +kernel) (fun _ _ _ h => h) (Or.inl ⟨by rfl, ?_⟩) (by assumption) ?_; rotate_left; (focus (intro w9 hS9; (try dsimp only at hS9); go_simp; (try with_reducible rfl); done))) | fail); (try simp only [Act.put, List.setIfInBounds_toArray, List.set_cons_zero, List.set_cons_succ])) | ((first | (refine wpAnyH_ready (rs := [1]) (by decide +kernel) (by simp) ?_; refine consL rfl (fun K hK => ?_) ?_; rotate_left; exact AllReadyH.nil) | (refine wpAnyH_ready (rs := [7]) (by decide +kernel) (by simp) ?_; refine consL rfl (fun K hK => ?_) ?_; rotate_left; exact AllReadyH.nil) | (refine wpAnyH_ready (rs := [8]) (by decide +kernel) (by simp) ?_; refine consL rfl (fun K hK => ?_) ?_; rotate_left; exact AllReadyH.nil) | (refine wpAnyH_ready (rs := [10]) (by decide +kernel) (by simp) ?_; refine consL rfl (fun K hK => ?_) ?_; rotate_left; exact AllReadyH.nil) | fail); all_goals ((first | (go_at_call 34; (with_reducible refine (graph_Clone t _ _ _ _ _ HN.out.b.ta hov hln).mono ?_); rintro e w5 ⟨B1, B2, d1, d2, rfl, hc, hb⟩; have HC := Lib.hid hc; have HMB := Lib.hid hb; replace HN := Lib.hid (HN.out.up hb); clear hc hb) | (go_at_call 71; (with_reducible refine (graph_Over _ _ _ _ t _ _ HN.out.b.ta.ov hv0 hov2).mono ?_); rintro e w6 ⟨rfl, hb⟩; replace HMB := Lib.hid hb; replace HC := Lib.hid (HC.out.below hb); replace HN := Lib.hid (HN.out.up hb); clear hb) | (go_at_call 72; (with_reducible refine (lsdb_New _).mono ?_); rintro e w7 ⟨mb, db, rfl, hd, hm, hmw, hdw, hb⟩; replace HMB := Lib.hid hb; have HC6 := HC; have HN6 := Lib.hid (HN.out.b.hb.size); have H6 := Lib.hid hb; have HM6 := Lib.hid hmw; have HD6 := Lib.hid hdw; have HD := Lib.hid hd; have HM := Lib.hid hm; have HDW := Lib.hid (Nat.le_trans HN.out.b.hb.size hdw); have HMW := Lib.hid (Nat.le_trans HN.out.b.hb.size hmw); replace HC := Lib.hid (HC.out.below hb); replace HN := Lib.hid (HN.out.up hb); clear hd hm hmw hdw hb) | (go_simp; first | done | (first | (go_at_call 34; (with_reducible refine (graph_Clone t _ _ _ _ _ HN.out.b.ta hov hln).mono ?_); rintro e w5 ⟨B1, B2, d1, d2, rfl, hc, hb⟩; have HC := Lib.hid hc; have HMB := Lib.hid hb; replace HN := Lib.hid (HN.out.up hb); clear hc hb) | (go_at_call 71; (with_reducible refine (graph_Over _ _ _ _ t _ _ HN.out.b.ta.ov hv0 hov2).mono ?_); rintro e w6 ⟨rfl, hb⟩; replace HMB := Lib.hid hb; replace HC := Lib.hid (HC.out.below hb); replace HN := Lib.hid (HN.out.up hb); clear hb) | (go_at_call 72; (with_reducible refine (lsdb_New _).mono ?_); rintro e w7 ⟨mb, db, rfl, hd, hm, hmw, hdw, hb⟩; replace HMB := Lib.hid hb; have HC6 := HC; have HN6 := Lib.hid (HN.out.b.hb.size); have H6 := Lib.hid hb; have HM6 := Lib.hid hmw; have HD6 := Lib.hid hdw; have HD := Lib.hid hd; have HM := Lib.hid hm; have HDW := Lib.hid (Nat.le_trans HN.out.b.hb.size hdw); have HMW := Lib.hid (Nat.le_trans HN.out.b.hb.size hmw); replace HC := Lib.hid (HC.out.below hb); replace HN := Lib.hid (HN.out.up hb); clear hd hm hmw hdw hb))) | go_simp); (first | (with_reducible refine hK.out _ _ ?_ ?_) | (go_wp2_with fail; refine hK.out _ _ ?_ ?_)); (focus (first | with_reducible exact hHeld | exact n6_box _ hHeld | exact n6_up HMB.out hHeld)); clear hK K hHeld; intro hHeld; (try simp only [Act.put, List.setIfInBounds_toArray, List.set_cons_zero, List.set_cons_succ]))) | (refine wpAnyH_done (by decide +kernel) ?_ _) | fail)
   clear hHeld HMB
   have HS := Lib.hid (Bl.new w7 #[.int .i64 t.n, .slice B1 t.ov.length d1, .slice B2 t.ls.length d2, .int .i64 v, .int .i64 bt, .int .i64 h1, .int .i64 h2, .int .i64 h3, .int .i64 0, .slice none 0 0, .bool (over t v), .slice none 0 0, .pointer (some ⟨db, 0, none⟩), .pointer none, .pointer none] 160)
   have C7 := Lib.hid (below_box w7 (.cells #[.int .i64 t.n, .slice B1 t.ov.length d1, .slice B2 t.ls.length d2, .int .i64 v, .int .i64 bt, .int .i64 h1, .int .i64 h2, .int .i64 h3, .int .i64 0, .slice none 0 0, .bool (over t v), .slice none 0 0, .pointer (some ⟨db, 0, none⟩), .pointer none, .pointer none] 160))
   obtain ⟨sb, hsb⟩ : ∃ sb, sb = w7.heap.size := ⟨_, rfl⟩
   have HSB := Lib.hid hsb
   rw [← hsb] at HS
   have hW1 : sb < (w7.alloc (.cells #[.int .i64 t.n, .slice B1 t.ov.length d1, .slice B2 t.ls.length d2, .int .i64 v, .int .i64 bt, .int .i64 h1, .int .i64 h2, .int .i64 h3, .int .i64 0, .slice none 0 0, .bool (over t v), .slice none 0 0, .pointer (some ⟨db, 0, none⟩), .pointer none, .pointer none] 160)).heap.size := by rw [hsb]; simp
   have E3 := Lib.hid e3
   have H64 : Hid (isN 64 v = true) := Lib.hid (by rw [isN_true] at hn ⊢; have := valid_n hv; omega)
   rw [← hsb]
   generalize w7.alloc (.cells #[.int .i64 t.n, .slice B1 t.ov.length d1, .slice B2 t.ls.length d2, .int .i64 v, .int .i64 bt, .int .i64 h1, .int .i64 h2, .int .i64 h3, .int .i64 0, .slice none 0 0, .bool (over t v), .slice none 0 0, .pointer (some ⟨db, 0, none⟩), .pointer none, .pointer none] 160) = W1 at HS C7 hW1 ⊢
   have HSZ := Lib.hid hW1
   clear hsb hW1 e1 e2 e3 hx
   have k2 := (HN.out.up C7.out).cells.2.2.2.2.2
   obtain ⟨s0, s1, s2, s3, s4, s5, s6, s7, s8, s9, s10, s11, s12, s13, s14, fs⟩ := HS.out.c15
   go_wp2_with (go_at_call 73; refine (flood_New h3 _ E3.out).mono ?_; rintro e w8 ⟨nb, fb, rfl, hf, hnm, hnw, hfw, hb⟩; have HF := Lib.hid hf; have HNB := Lib.hid hnm; have HFW := Lib.hid hfw; have HNW := Lib.hid hnw; replace HS := Lib.hid (HS.out.up hb); replace C7 := Lib.hid (C7.out.trans (hb.mono C7.out.size)); clear hf hnm hnw hfw hb k2 s0 s1 s2 s3 s4 s5 s6 s7 s8 s9 s10 s11 s12 s13 s14 fs; obtain ⟨s0, s1, s2, s3, s4, s5, s6, s7, s8, s9, s10, s11, s12, s13, s14, fs⟩ := HS.out.c15)
   refine (origin_New v _ H64.out).mono ?_
   rintro e w9 ⟨ob, rfl, ho, how, hb⟩
   have HSZ8 := Lib.hid HS.out.lt
   have HO := Lib.hid ho
   have HOW := Lib.hid how
   replace HS := Lib.hid ((HS.out.set 13 (.pointer (some ⟨fb, 0, none⟩)) rfl).up hb)
   replace HF := Lib.hid ((HF.out.other (c := sb) (j := 13) (by have := HFW.out; have := HSZ.out; omega) (.pointer (some ⟨fb, 0, none⟩))).up hb)
   replace HNB := Lib.hid ((HNB.out.kept (Below.heap_setCell _ ⟨sb, 13, none⟩ _ _ (by have := HNW.out; have := HSZ.out; show nb ≠ sb; omega))).up hb)
   replace C7 := Lib.hid ((Bset (j := 13) (v := .pointer (some ⟨fb, 0, none⟩)) C7.out (Nat.le_of_eq HSB.out.symm)).trans (hb.mono (by simpa using C7.out.size)))
   clear ho how hb s0 s1 s2 s3 s4 s5 s6 s7 s8 s9 s10 s11 s12 s13 s14 fs
   obtain ⟨s0, s1, s2, s3, s4, s5, s6, s7, s8, s9, s10, s11, s12, s13, s14, fs⟩ := HS.out.c15
   obtain ⟨b0, b1, b2, _⟩ := (HN.out.up C7.out).cells
   have hne1 : w.heap.size ≠ sb := (by have := HN.out.k.lt; have := HSB.out; omega)
   have hne2 : sb ≠ w.heap.size := fun h => hne1 h.symm
   go_wp2_with fail
   have HSZ9 := Lib.hid HS.out.lt
   replace C7 := Lib.hid (Bset (j := 14) (v := .pointer (some ⟨ob, 0, none⟩)) C7.out (Nat.le_of_eq HSB.out.symm))
   refine (graph_OutO t _ _ _ _ v _ (HN.out.up C7.out).b.ta (by omega)).mono ?_
   rintro e w10 ⟨vo, rfl, hvo, hb⟩
   replace HS := Lib.hid ((HS.out.set 14 (.pointer (some ⟨ob, 0, none⟩)) rfl).up hb)
   replace HF := Lib.hid ((HF.out.other (c := sb) (j := 14) (by have := HFW.out; have := HSZ.out; omega) (.pointer (some ⟨ob, 0, none⟩))).up hb)
   replace HNB := Lib.hid ((HNB.out.kept (Below.heap_setCell _ ⟨sb, 14, none⟩ _ _ (by have := HNW.out; have := HSZ.out; show nb ≠ sb; omega))).up hb)
   replace HO := Lib.hid ((HO.out.other (c := sb) (j := 14) (by have := HOW.out; have := HSZ8.out; (try simp at *); omega) (.pointer (some ⟨ob, 0, none⟩))).up hb)
   replace C7 := Lib.hid (C7.out.trans (hb.mono C7.out.size))
   have HVO := Lib.hid hvo
   obtain ⟨Ao, co, rfl, ho1, ho2, ho3⟩ := rd_of_own hvo
   clear hvo hb ho3 s0 s1 s2 s3 s4 s5 s6 s7 s8 s9 s10 s11 s12 s13 s14 fs b0 b1 b2
   go_wp2_with fail
   obtain ⟨arcs, harcs⟩ : ∃ arcs, arcs = ups (outP t v) (2 * t.ls.length) := ⟨_, rfl⟩
   have HAR := Lib.hid harcs
   rw [← harcs] at HVO ⊢
   clear harcs ho1 ho2
   have HW10 := Lib.hid (Nat.le_refl w10.heap.size)
   go_loopw [14, 73] (fun _ i wr => ∃ (k : Nat) (p : Value), k ≤ arcs.length ∧ i = .int .i64 k ∧ Hid (Kp [sb] w10 wr) ∧ Hid (Bl 160 sb #[.int .i64 t.n, .slice B1 t.ov.length d1, .slice B2 t.ls.length d2, .int .i64 v, .int .i64 bt, .int .i64 h1, .int .i64 h2, .int .i64 h3, .int .i64 0, p, .bool (over t v), .slice none 0 0, .pointer (some ⟨db, 0, none⟩), .pointer (some ⟨fb, 0, none⟩), .pointer (some ⟨ob, 0, none⟩)] wr) ∧ Hid (wr.ownsRow w10.heap.size 170 6 p k (((arcs.take k).map (portOf t)).flatMap portV))) (fun _ i _ => arcs.length - (intOf i).toNat)
   case atStart => exact ⟨0, _, Nat.zero_le _, rfl, Lib.hid (Kp.refl _ _), HS, Lib.hid (World.ownsRow_nil _ _ _ _)⟩
   case round =>
    obtain ⟨k, p, hk, rfl, HK, HSR, HPR⟩ := hrel
    have HT := Lib.hid ((HN.out.up (Kp.below HK.out C7.out C7.out.size (by simp; exact Nat.le_of_eq HSB.out.symm))).b)
    have hsw := HSR.out.lt
    by_cases hlt : k < arcs.length
    ·obtain ⟨Az, cz, ez, _, _, hrd⟩ := rd_of_own (own_kp HVO.out HK.out (by have := HSZ9.out; (try simp); omega))
     injection ez with ez _ _
     subst ez
     obtain ⟨bz, oz, a, rfl, haz, caz⟩ := ints_at hrd hlt
     have HAZ := Lib.hid haz
     have ha := arc_bd (by rw [← HAR.out]; exact haz)
     have ha0 := ha.1
     have ha1 := ha.2
     have hlt' : (k : Int) < (arcs.length : Int) := by omega
     clear hrd haz ha
     obtain ⟨i0, hi, hz0, hz1, hz2⟩ := info_parts portInfo
     have HKL : Hid (k ≤ 2000) := Lib.hid (by have := ups_le (outP t v) (2 * t.ls.length); have := HAR.out; subst this; omega)
     have HSW : Hid (sb < w10.heap.size) := Lib.hid HS.out.lt
     have HWW : Hid (w.heap.size < w10.heap.size) := Lib.hid (by have := HN.out.k.lt; have := C7.out.size; omega)
     go_upto_region 17 with fail
     refine wp_region_held_drew (S := (fun w' => w'.cell? ⟨w.heap.size, 0, none⟩ = some (.int .i64 t.n) ∧ w'.cell? ⟨w.heap.size, 1, none⟩ = some (.slice A1 t.ov.length c1) ∧ w'.cell? ⟨w.heap.size, 2, none⟩ = some (.slice A2 t.ls.length c2))) (by kernel_rfl) ?_ (fun hHeld => ?_)
     ·exact HT.out.cells
     have HTd := Lib.hid (HT.out.up (Bdrw (Below.refl _ _)))
     have HKd := Lib.hid HK.out.drew
     have HSd := Lib.hid (HSR.out.up (Bdrw (Below.refl _ _)))
     have HPd := Lib.hid (own_up HPR.out (Bdrw (Below.refl _ _)))
     clear HT HK HSR HPR hsw caz
     generalize wr.drew = W11 at hHeld HTd HKd HSd HPd ⊢
     have HT := HTd
     have HK := HKd
     have HSR := HSd
     have HPR := HPd
     clear HTd HKd HSd HPd
     have s9 := HSR.out.c15.2.2.2.2.2.2.2.2.2.1
     repeat' (first | ((first | (refine takeL (i := 0) (v := ?_) rfl (by kernel_rfl) (by decide +kernel) (by decide +kernel) (fun _ _ _ h => h) (Or.inl ⟨by rfl, ?_⟩) (by assumption) ?_; rotate_left; (focus (intro w9 hS9; (try dsimp only at hS9); go_simp; (try with_reducible rfl); done))) | (refine takeL (i := 1) (v := ?_) rfl (by kernel_rfl) (by decide +kernel) (by decide +kernel) (fun _ _ _ h => h) (Or.inl ⟨by rfl, ?_⟩) (by assumption) ?_; rotate_left; (focus (intro w9 hS9; (try dsimp only at hS9); go_simp; (try with_reducible rfl); done))) | (refine takeL (i := 2) (v := ?_) rfl (by kernel_rfl) (by decide +kernel) (by decide +kernel) (fun _ _ _ h => h) (Or.inl ⟨by rfl, ?_⟩) (by assumption) ?_; rotate_left; (focus (intro w9 hS9; (try dsimp only at hS9); go_simp; (try with_reducible rfl); done))) | (refine takeL (i := 3) (v := ?_) rfl (by kernel_rfl) (by decide +kernel) (by decide +kernel) (fun _ _ _ h => h) (Or.inl ⟨by rfl, ?_⟩) (by assumption) ?_; rotate_left; (focus (intro w9 hS9; (try dsimp only at hS9); go_simp; (try with_reducible rfl); done))) | (refine takeL (i := 4) (v := ?_) rfl (by kernel_rfl) (by decide +kernel) (by decide +kernel) (fun _ _ _ h => h) (Or.inl ⟨by rfl, ?_⟩) (by assumption) ?_; rotate_left; (focus (intro w9 hS9; (try dsimp only at hS9); go_simp; (try with_reducible rfl); done))) | (refine takeL (i := 5) (v := ?_) rfl (by kernel_rfl) (by decide +kernel) (by decide +kernel) (fun _ _ _ h => h) (Or.inl ⟨by rfl, ?_⟩) (by assumption) ?_; rotate_left; (focus (intro w9 hS9; (try dsimp only at hS9); go_simp; (try with_reducible rfl); done))) | (refine takeL (i := 6) (v := ?_) rfl (by kernel_rfl) (by decide +kernel) (by decide +kernel) (fun _ _ _ h => h) (Or.inl ⟨by rfl, ?_⟩) (by assumption) ?_; rotate_left; (focus (intro w9 hS9; (try dsimp only at hS9); go_simp; (try with_reducible rfl); done))) | (refine takeL (i := 7) (v := ?_) rfl (by kernel_rfl) (by decide +kernel) (by decide +kernel) (fun _ _ _ h => h) (Or.inl ⟨by rfl, ?_⟩) (by assumption) ?_; rotate_left; (focus (intro w9 hS9; (try dsimp only at hS9); go_simp; (try with_reducible rfl); done))) | (refine takeL (i := 8) (v := ?_) rfl (by kernel_rfl) (by decide +kernel) (by decide +kernel) (fun _ _ _ h => h) (Or.inl ⟨by rfl, ?_⟩) (by assumption) ?_; rotate_left; (focus (intro w9 hS9; (try dsimp only at hS9); go_simp; (try with_reducible rfl); done))) | (refine takeL (i := 9) (v := ?_) rfl (by kernel_rfl) (by decide +kernel) (by decide +kernel) (fun _ _ _ h => h) (Or.inl ⟨by rfl, ?_⟩) (by assumption) ?_; rotate_left; (focus (intro w9 hS9; (try dsimp only at hS9); go_simp; (try with_reducible rfl); done))) | (refine takeL (i := 10) (v := ?_) rfl (by kernel_rfl) (by decide +kernel) (by decide +kernel) (fun _ _ _ h => h) (Or.inl ⟨by rfl, ?_⟩) (by assumption) ?_; rotate_left; (focus (intro w9 hS9; (try dsimp only at hS9); go_simp; (try with_reducible rfl); done))) | (refine takeL (i := 11) (v := ?_) rfl (by kernel_rfl) (by decide +kernel) (by decide +kernel) (fun _ _ _ h => h) (Or.inl ⟨by rfl, ?_⟩) (by assumption) ?_; rotate_left; (focus (intro w9 hS9; (try dsimp only at hS9); go_simp; (try with_reducible rfl); done))) | (refine takeL (i := 12) (v := ?_) rfl (by kernel_rfl) (by decide +kernel) (by decide +kernel) (fun _ _ _ h => h) (Or.inl ⟨by rfl, ?_⟩) (by assumption) ?_; rotate_left; (focus (intro w9 hS9; (try dsimp only at hS9); go_simp; (try with_reducible rfl); done))) | (refine takeL (i := 13) (v := ?_) rfl (by kernel_rfl) (by decide +kernel) (by decide +kernel) (fun _ _ _ h => h) (Or.inl ⟨by rfl, ?_⟩) (by assumption) ?_; rotate_left; (focus (intro w9 hS9; (try dsimp only at hS9); go_simp; (try with_reducible rfl); done))) | (refine takeL (i := 14) (v := ?_) rfl (by kernel_rfl) (by decide +kernel) (by decide +kernel) (fun _ _ _ h => h) (Or.inl ⟨by rfl, ?_⟩) (by assumption) ?_; rotate_left; (focus (intro w9 hS9; (try dsimp only at hS9); go_simp; (try with_reducible rfl); done))) | (refine takeL (i := 15) (v := ?_) rfl (by kernel_rfl) (by decide +kernel) (by decide +kernel) (fun _ _ _ h => h) (Or.inl ⟨by rfl, ?_⟩) (by assumption) ?_; rotate_left; (focus (intro w9 hS9; (try dsimp only at hS9); go_simp; (try with_reducible rfl); done))) | (refine takeL (i := 16) (v := ?_) rfl (by kernel_rfl) (by decide +kernel) (by decide +kernel) (fun _ _ _ h => h) (Or.inl ⟨by rfl, ?_⟩) (by assumption) ?_; rotate_left; (focus (intro w9 hS9; (try dsimp only at hS9); go_simp; (try with_reducible rfl); done))) | (refine takeL (i := 17) (v := ?_) rfl (by kernel_rfl) (by decide +kernel) (by decide +kernel) (fun _ _ _ h => h) (Or.inl ⟨by rfl, ?_⟩) (by assumption) ?_; rotate_left; (focus (intro w9 hS9; (try dsimp only at hS9); go_simp; (try with_reducible rfl); done))) | (refine takeL (i := 18) (v := ?_) rfl (by kernel_rfl) (by decide +kernel) (by decide +kernel) (fun _ _ _ h => h) (Or.inl ⟨by rfl, ?_⟩) (by assumption) ?_; rotate_left; (focus (intro w9 hS9; (try dsimp only at hS9); go_simp; (try with_reducible rfl); done))) | fail); (try simp only [Act.put, List.setIfInBounds_toArray, List.set_cons_zero, List.set_cons_succ])) | ((first | (refine wpAnyH_ready (rs := [4, 9]) (by decide +kernel) (by simp) ?_; refine consL rfl (fun K hK => ?_) ?_; rotate_left; refine consL rfl (fun K hK => ?_) ?_; rotate_left; exact AllReadyH.nil) | (refine wpAnyH_ready (rs := [9]) (by decide +kernel) (by simp) ?_; refine consL rfl (fun K hK => ?_) ?_; rotate_left; exact AllReadyH.nil) | (refine wpAnyH_ready (rs := [4, 12]) (by decide +kernel) (by simp) ?_; refine consL rfl (fun K hK => ?_) ?_; rotate_left; refine consL rfl (fun K hK => ?_) ?_; rotate_left; exact AllReadyH.nil) | (refine wpAnyH_ready (rs := [12]) (by decide +kernel) (by simp) ?_; refine consL rfl (fun K hK => ?_) ?_; rotate_left; exact AllReadyH.nil) | (refine wpAnyH_ready (rs := [4, 14]) (by decide +kernel) (by simp) ?_; refine consL rfl (fun K hK => ?_) ?_; rotate_left; refine consL rfl (fun K hK => ?_) ?_; rotate_left; exact AllReadyH.nil) | (refine wpAnyH_ready (rs := [14]) (by decide +kernel) (by simp) ?_; refine consL rfl (fun K hK => ?_) ?_; rotate_left; exact AllReadyH.nil) | (refine wpAnyH_ready (rs := [4]) (by decide +kernel) (by simp) ?_; refine consL rfl (fun K hK => ?_) ?_; rotate_left; exact AllReadyH.nil) | (refine wpAnyH_ready (rs := [15]) (by decide +kernel) (by simp) ?_; refine consL rfl (fun K hK => ?_) ?_; rotate_left; exact AllReadyH.nil) | (refine wpAnyH_ready (rs := [18]) (by decide +kernel) (by simp) ?_; refine consL rfl (fun K hK => ?_) ?_; rotate_left; exact AllReadyH.nil) | fail); all_goals ((first | (go_at_call 76; (with_reducible refine (graph_Head _ _ _ _ t _ _ HT.out.ta.ls ha0 ha1 (by omega)).mono ?_); rintro e w11 ⟨rfl, hb⟩; have HMB := Lib.hid hb; replace HT := Lib.hid (HT.out.up hb); replace HK := Lib.hid (HK.out.next hb); replace HSR := Lib.hid (HSR.out.up hb); replace HPR := Lib.hid (own_up HPR.out hb); (try replace s9 := cell_up hb s9); (try clear q1 q2 q3); have q1 := HSR.out.lt; have q2 := Nat.ne_of_lt q1; have q3 := Nat.ne_of_gt q1; clear hb) | (go_at_call 77; (with_reducible refine (graph_Cost _ _ _ _ t _ _ HT.out.ta.ls ha0 ha1 (by omega)).mono ?_); rintro e w12 ⟨rfl, hb⟩; have HMB := Lib.hid hb; replace HT := Lib.hid (HT.out.up hb); replace HK := Lib.hid (HK.out.next hb); replace HSR := Lib.hid (HSR.out.up hb); replace HPR := Lib.hid (own_up HPR.out hb); (try replace s9 := cell_up hb s9); (try clear q1 q2 q3); have q1 := HSR.out.lt; have q2 := Nat.ne_of_lt q1; have q3 := Nat.ne_of_gt q1; clear hb) | (refine step_append_lies _ rfl _ _ 155 rfl w10.heap.size 170 i0 (.agg #[.int .i64 0, .int .i64 0, .int .i64 0, .int .i64 0, .int .i64 0, .int .i64 0]) 6 48 Tryz.underlying155 hi hz0 hz1 hz2 rfl (by decide) _ _ _ rfl (HPR.out.alloc _) ⟨w12.heap.size, 0, none⟩ 1 1 (portV (portOf t a)) rfl rfl (World.news_of_block (heap_alloc_new w12 _)) (port_one _) (by decide) (by have := HKL.out; unfold maxLen; omega) (by have := HKL.out; omega) (Nat.le_trans HK.out.size (by simp)) _ rfl ?_; intro g cap W5 ap1 ap2 ap3 ap4; have HS5 := HSR.out.up (below_box w12 (.cells #[.int .i64 (IntKind.i64.wrap (a.tdiv 2)), .int .i64 (head t a), .int .i64 (cost t a), .int .i64 0, .int .i64 0, .int .i64 0] 170)); have hbn := own_ne HPR.out HSW.out; have m9 : W5.cell? ⟨sb, 9, none⟩ = some p := (ap2.cell_far ⟨sb, 9, none⟩ HS5.lt (fun e => hbn e.symm)).trans HS5.c15.2.2.2.2.2.2.2.2.2.1; have m0 : W5.frozen? ⟨sb, 9, none⟩ = false := (ap2.frozen_far ⟨sb, 9, none⟩ HS5.lt (fun e => hbn e.symm)).trans (HS5.frz 9); have HA1 := Lib.hid ap1; have HA2 := Lib.hid ap2; have hbw := own_ne HPR.out HWW.out) | (go_simp; first | done | (first | (go_at_call 76; (with_reducible refine (graph_Head _ _ _ _ t _ _ HT.out.ta.ls ha0 ha1 (by omega)).mono ?_); rintro e w11 ⟨rfl, hb⟩; have HMB := Lib.hid hb; replace HT := Lib.hid (HT.out.up hb); replace HK := Lib.hid (HK.out.next hb); replace HSR := Lib.hid (HSR.out.up hb); replace HPR := Lib.hid (own_up HPR.out hb); (try replace s9 := cell_up hb s9); (try clear q1 q2 q3); have q1 := HSR.out.lt; have q2 := Nat.ne_of_lt q1; have q3 := Nat.ne_of_gt q1; clear hb) | (go_at_call 77; (with_reducible refine (graph_Cost _ _ _ _ t _ _ HT.out.ta.ls ha0 ha1 (by omega)).mono ?_); rintro e w12 ⟨rfl, hb⟩; have HMB := Lib.hid hb; replace HT := Lib.hid (HT.out.up hb); replace HK := Lib.hid (HK.out.next hb); replace HSR := Lib.hid (HSR.out.up hb); replace HPR := Lib.hid (own_up HPR.out hb); (try replace s9 := cell_up hb s9); (try clear q1 q2 q3); have q1 := HSR.out.lt; have q2 := Nat.ne_of_lt q1; have q3 := Nat.ne_of_gt q1; clear hb) | (refine step_append_lies _ rfl _ _ 155 rfl w10.heap.size 170 i0 (.agg #[.int .i64 0, .int .i64 0, .int .i64 0, .int .i64 0, .int .i64 0, .int .i64 0]) 6 48 Tryz.underlying155 hi hz0 hz1 hz2 rfl (by decide) _ _ _ rfl (HPR.out.alloc _) ⟨w12.heap.size, 0, none⟩ 1 1 (portV (portOf t a)) rfl rfl (World.news_of_block (heap_alloc_new w12 _)) (port_one _) (by decide) (by have := HKL.out; unfold maxLen; omega) (by have := HKL.out; omega) (Nat.le_trans HK.out.size (by simp)) _ rfl ?_; intro g cap W5 ap1 ap2 ap3 ap4; have HS5 := HSR.out.up (below_box w12 (.cells #[.int .i64 (IntKind.i64.wrap (a.tdiv 2)), .int .i64 (head t a), .int .i64 (cost t a), .int .i64 0, .int .i64 0, .int .i64 0] 170)); have hbn := own_ne HPR.out HSW.out; have m9 : W5.cell? ⟨sb, 9, none⟩ = some p := (ap2.cell_far ⟨sb, 9, none⟩ HS5.lt (fun e => hbn e.symm)).trans HS5.c15.2.2.2.2.2.2.2.2.2.1; have m0 : W5.frozen? ⟨sb, 9, none⟩ = false := (ap2.frozen_far ⟨sb, 9, none⟩ HS5.lt (fun e => hbn e.symm)).trans (HS5.frz 9); have HA1 := Lib.hid ap1; have HA2 := Lib.hid ap2; have hbw := own_ne HPR.out HWW.out))) | go_simp); (first | (with_reducible refine hK.out _ _ ?_ ?_) | (go_wp2_with fail; refine hK.out _ _ ?_ ?_)); (focus (first | with_reducible exact hHeld | exact t3_up (below_box _ _) hHeld | exact t3_up HMB.out hHeld | exact t3_grown HA2.out (fun e => hbw e.symm) hHeld | exact t3_set hne2 hHeld)); clear hK K hHeld; intro hHeld; (try simp only [Act.put, List.setIfInBounds_toArray, List.set_cons_zero, List.set_cons_succ]))) | (refine wpAnyH_done (by decide +kernel) ?_ _) | fail)
     all_goals
      have hk2 : k ≤ 2000 := HKL.out
      go_wp2_with fail
      go_roundw
      case rel => exact ⟨k + 1, by omega, by go_num, Lib.hid (Kset (Kp.grown (HK.out.alloc _) HA2.out (fun b e => .inr (HPR.out.lt b e).1)) (.inl (by simp))), _, Lib.hid (((HSR.out.up (below_box w12 _)).grown HA2.out (fun e => hbn e.symm)).set 9 _ rfl), Lib.hid (by rw [← List.map_take, take_ports HAZ.out]; exact own_setCell HA1.out (fun e => by have := (HA1.out.lt _ e).1; have := HSW.out; omega) _)⟩
      case measure => simp [intOf]; omega
    ·obtain rfl : k = arcs.length := by omega
     have hp := HPR.out
     rw [List.take_length] at hp
     obtain ⟨Ap, cp, rfl, hp1, hp2, hp3⟩ := rd_of_ownK hp
     have HP3 := Lib.hid hp3
     have HB0 := Lib.hid (Kp.below HK.out C7.out C7.out.size (by simp; exact Nat.le_of_eq HSB.out.symm))
     have HD2 := Lib.hid ((HD.out.up C7.out).kp HK.out (by have := HD.out.lt; have := HSB.out; simp; omega))
     have HM2 := Lib.hid ((HM.out.up C7.out).kp HK.out (by have := HM.out.lt; have := HSB.out; simp; omega))
     have HF2 := Lib.hid (HF.out.kp HK.out (by have := HFW.out; have := HSZ.out; simp; omega))
     have HN2 := Lib.hid (HNB.out.kp HK.out (by have := HNW.out; have := HSZ.out; simp; omega))
     have HO2 := Lib.hid (HO.out.kp HK.out (by have := HOW.out; have := HSZ8.out; (try simp at *); omega))
     have HL : Hid ((arcs.map (portOf t)).length ≤ 1000) := Lib.hid (by have := ups_le (outP t v) (2 * t.ls.length); have := valid_ls hv; have := HAR.out; subst this; simp; omega)
     have HLM : (arcs.map (portOf t)).length = arcs.length := List.length_map _
     have HPT : Hid (Pts sb db mb fb nb ob h3 (.int .i64 t.n) (.slice B1 t.ov.length d1) (.slice B2 t.ls.length d2) (.int .i64 v) (.int .i64 bt) (.int .i64 h1) (.int .i64 h2) (.int .i64 h3) (.int .i64 0) (.slice Ap (arcs.map (portOf t)).length cp) (.bool (over t v)) (.slice none 0 0) wr) := Lib.hid ⟨by rw [HLM]; exact HSR.out, HD2.out, HF2.out, HN2.out, (HM2.out.ne_bl HD2.out).symm, (HM2.out.ne_bl HF2.out).symm, (by have := HNW.out; have := HSZ.out; have := HSB.out; have := HM.out.lt; omega), (HM2.out.ne_bl HSR.out).symm, (HM2.out.ne_bl HO2.out).symm, HD2.out.ne HO2.out (by simp), HF2.out.ne HO2.out (by simp), HN2.out.ne_bl HO2.out, HSR.out.ne HO2.out (by simp)⟩
     have HOB : Hid (w6.heap.size ≤ ob) := Lib.hid (by have := HOW.out; have := HSZ8.out; have := HSB.out; have := H6.out.size; (try simp at *); omega)
     clear hp hp1 hp2 hp3 hlt HLM
     go_wp2_with (go_at_call 78; (with_reducible refine (speaker_originate0 v (over t v) Ap cp (arcs.map (portOf t)) H64.out HL.out HP3.out HPT.out HM2.out HO2.out).mono ?_); rintro e w20 ⟨rfl, hm20, hk20⟩; have HM20 := Lib.hid hm20; have HK20 := Lib.hid hk20; clear hm20 hk20)
     go_ret2
     have n1 : sb ∉ [mb, ob] := by have := HPT.out.ne; simp; omega
     have n2 : db ∉ [mb, ob] := by have := HPT.out.ne; simp; omega
     have hb6 : Below w6.heap.size w6 w20 := HK20.out.below (H6.out.trans (HB0.out.mono H6.out.size)) (Nat.le_trans H6.out.size HB0.out.size) (by have := HM6.out; have := HOB.out; simp; omega)
     exact ⟨⟨sb, rfl, db, mb, B1, B2, d1, d2, _, _, _, _, _, _, _, _, _, _, _, HPT.out.s.kp HK20.out n1, HC6.out.below hb6, HD2.out.kp HK20.out n2, HM20.out⟩, HK20.out.below (below_next HN.out.b.hb HB0.out) (by have := HN.out.b.hb.size; have := HB0.out.size; omega) (by have := HMW.out; have := HOB.out; have := HN6.out; simp; omega)⟩
end
end Go.Proofs.YtenhliibmcmnbaaGreat
namespace Go.Proofs.YtenhliibmcmnbaaGreat
set_option linter.unusedSimpArgs false
set_option linter.unusedVariables false
open Go.RowKit Go.Sort
section
variable {t : Topo} {v bt h1 h2 h3 g s : Int} {A1 A2 : Option Addr} {w : World}
/-- The error that router.New answers with. -/
def newK (t : Topo) (v bt h1 h2 h3 g s : Int) : Int := if (valid t && inR bt 1 1073741824 && tmsOk [h1, h2, h3, g, s]) = true then (if isN t.n v = true then 0 else 2) else 1
/-- What router.New answers: no router and the error, or a fresh router. -/
def RRes (t : Topo) (v bt h1 h2 h3 g s : Int) (rp : Option Addr) (kk : Int) (n0 : Nat) (w' : World) : Prop :=
 kk = newK t v bt h1 h2 h3 g s ∧ ((kk ≠ 0 ∧ rp = none) ∨ (kk = 0 ∧ ∃ rb, rp = some ⟨rb, 0, none⟩ ∧ RouAt t v rb w' ∧ n0 ≤ rb))
theorem RRes.up {rp : Option Addr} {kk : Int} {n0 : Nat} {w w' : World} (h : RRes t v bt h1 h2 h3 g s rp kk n0 w) (hb : Below w.heap.size w w') : RRes t v bt h1 h2 h3 g s rp kk n0 w' :=
 ⟨h.1, h.2.elim .inl fun ⟨h0, rb, h1, h2, h3⟩ => .inr ⟨h0, rb, h1, h2.up hb, h3⟩⟩
theorem tmsOk5 : tmsOk [h1, h2, h3, g, s] = ((inR h1 1 65536 && inR h2 1 65536 && inR h3 1 65536) && (inR g 1 65536 && inR s 1 65536)) := by
 simp [tmsOk, Bool.and_assoc]
theorem router_New_all (c1 c2 : Nat) (hT : TAt w A1 A2 t) :
  Calls Tryz.prog 6 #[.agg #[.int .i64 t.n, .slice A1 t.ov.length c1, .slice A2 t.ls.length c2], .int .i64 v, .int .i64 bt, .agg #[.int .i64 h1, .int .i64 h2, .int .i64 h3, .int .i64 g, .int .i64 s]] w fun e w' => ∃ rp kk, e = .returned (.tuple #[.pointer rp, .int .i64 kk]) ∧ RRes t v bt h1 h2 h3 g s rp kk w.heap.size w' ∧ Below w.heap.size w w' := by
 have H5 := @tmsOk5 h1 h2 h3 g s
 have no : ∀ k : Int, k ≠ 0 → k = newK t v bt h1 h2 h3 g s → ∀ (e : Ending) (w' : World), (e = .returned (.tuple #[.pointer none, .int .i64 k]) ∧ Below w.heap.size w w') → ∃ rp kk, e = .returned (.tuple #[.pointer rp, .int .i64 kk]) ∧ RRes t v bt h1 h2 h3 g s rp kk w.heap.size w' ∧ Below w.heap.size w w' := fun k hk he e w' ⟨h1, h2⟩ => ⟨none, k, h1, ⟨he, .inl ⟨hk, rfl⟩⟩, h2⟩
 cases hx : (inR g 1 65536 && inR s 1 65536) with
 | false => exact (router_New_bad1 c1 c2 v bt h1 h2 h3 g s hT hx).mono (no 1 (by decide) (by simp [newK, H5, hx]))
 | true =>
  cases hy : (valid t && inR bt 1 1073741824) with
  | false => exact (router_New_bad2 c1 c2 v bt h1 h2 h3 g s 1 (.inl rfl) hT hx (fun W c1 c2 hW => speaker_New_bad1 c1 c2 v bt h1 h2 h3 hW hy)).mono (no 1 (by decide) (by simp [newK, hy]))
  | true =>
   obtain ⟨hv, hbt⟩ := Bool.and_eq_true_iff.1 hy
   cases ht : (inR h1 1 65536 && inR h2 1 65536 && inR h3 1 65536) with
   | false => exact (router_New_bad2 c1 c2 v bt h1 h2 h3 g s 1 (.inl rfl) hT hx (fun W c1 c2 hW => speaker_New_bad2 c1 c2 v bt h1 h2 h3 hW hv hbt ht)).mono (no 1 (by decide) (by simp [newK, H5, ht]))
   | true =>
    have hall : (valid t && inR bt 1 1073741824 && tmsOk [h1, h2, h3, g, s]) = true := by rw [hy, H5, ht, hx]; rfl
    obtain ⟨e12, e3⟩ := Bool.and_eq_true_iff.1 ht
    obtain ⟨e1, e2⟩ := Bool.and_eq_true_iff.1 e12
    cases hn : isN t.n v with
    | false => exact (router_New_bad2 c1 c2 v bt h1 h2 h3 g s 2 (.inr rfl) hT hx (fun W c1 c2 hW => speaker_New_bad3 c1 c2 v bt h1 h2 h3 hW hv hbt e1 e2 e3 hn)).mono (no 2 (by decide) (by simp only [newK, hall, hn]; rfl))
    | true =>
     refine (router_New_ok c1 c2 v bt h1 h2 h3 g s hT hv hn hx (fun W c1 c2 hW => speaker_New_ok c1 c2 v bt h1 h2 h3 hW hv hbt e1 e2 e3 hn)).mono ?_
     rintro e w' ⟨⟨rb, rfl, hr, hrb⟩, hb⟩
     exact ⟨_, 0, rfl, ⟨by simp only [newK, hall, hn]; rfl, .inr ⟨rfl, rb, rfl, hr, hrb⟩⟩, hb⟩
theorem rou_State {rb : Nat} (hv : valid t = true) (h : RouAt t v rb w) : Calls Tryz.prog 12 #[.pointer (some ⟨rb, 0, none⟩)] w fun e w' => e = .returned (.int .i64 3) ∧ Below w.heap.size w w' := by
 obtain ⟨sb, C1, C2, B1, B2, D, e1, e2, d1, d2, g, s, hr, hc, hw, _⟩ := h
 exact router_State0 hv ⟨hr, hc, hw.1, hw.2.1⟩
end
end Go.Proofs.YtenhliibmcmnbaaGreat
namespace Go.Proofs.YtenhliibmcmnbaaGreat
set_option linter.unusedSimpArgs false
set_option linter.unusedVariables false
open Go.RowKit Go.Sort
theorem cells_newX (w : World) (xs : List Value) (T : TypeId) : ∀ (j : Nat) (u : Value), xs[j]? = some u → (w.alloc (.cells xs.toArray T)).cell? ((⟨w.heap.size, 0, none⟩ : Addr).add j) = some u := by
 intro j u hj
 rw [Addr.add_lit, Nat.zero_add, Lib.cell_of_heap (heap_alloc_new w _)]
 simpa using hj
section
variable {w : World}
theorem lsaInfo : (Tryz.prog.info? 179).map (fun i => (i.zero, i.size, i.bytes)) = some (some (.agg #[.int .i64 0, .int .i64 0, .int .i64 0, .bool false, .slice none 0 0, .slice none 0 0]), 6, 80) := by kernel_rfl
set_option maxRecDepth 100000 in
set_option maxHeartbeats 2000000 in
theorem lsdb_All1 (db mb : Nat) (v : Int) (ov : Bool) (hv : isN 1000000 v = true) (h : Bl 242 db #[.map (some mb)] w) (hm : MapAt Tryz.prog 3 mb [(.int .i64 v, heldV v ov)] w) :
  Calls Tryz.prog 121 #[.pointer (some ⟨db, 0, none⟩)] w fun e w' => (∃ A n c, e = .returned (.slice A n c)) ∧ Below w.heap.size w w' := by
 obtain ⟨i0, hi, hz0, hz1, hz2⟩ := info_parts lsaInfo
 have HO := Lib.hid (lsdb_origins1 db mb v _ w hv h hm)
 have H := Lib.hid h
 have HM := Lib.hid hm
 have HV := Lib.hid hv
 have hf1 := fld_a
 clear h hm hv
 go_enter Tryz.func121, Tryz.ntmps121
 go_wp2_with (go_at_call 166; refine HO.out.mono ?_; rintro e w1 ⟨A, c, rfl, -, -, hr, hb⟩; have HR := Lib.hid hr; have HB := Lib.hid hb; clear hr hb)
 have H1 := Lib.hid (H.out.up HB.out)
 have HM1 := Lib.hid (HM.out.up HB.out)
 clear H HM HO
 go_loopg [3, 9] 1 (fun gg s i wx => ∃ q : Nat, q + gg = 1 ∧ i = .int .i64 q ∧ Hid (∃ n A c, s = .slice A n c ∧ n = q) ∧ Hid (wx.ownsRow w1.heap.size 179 6 s q (List.replicate q [Value.int .i64 v, .int .i64 1, .int .i64 0, .bool ov, .slice none 0 0, .slice none 0 0]).flatten) ∧ Hid (Below w1.heap.size w1 wx))
 case atStart => exact ⟨0, rfl, rfl, Lib.hid ⟨0, none, 0, rfl, rfl⟩, Lib.hid (World.ownsRow_nil _ _ _ _), Lib.hid (Below.refl _ _)⟩
 case round =>
  obtain ⟨q, hq, rfl, HS, HOW, HW⟩ := hrel
  obtain ⟨n, A', c', rfl, rfl⟩ := HS.out
  by_cases hlt : n < 1
  ·obtain rfl : n = 0 := by omega
   obtain ⟨bz, oz, rfl, hc0⟩ := (HR.out.below HW.out).at_ (k := 0) (u := .int .i64 v) rfl
   have HDX := Lib.hid (H1.out.up HW.out)
   have HMX := Lib.hid (HM1.out.up HW.out)
   have hlk := look_yes mb v _ false wr HMX.out HV.out
   rw [Nat.add_zero] at hc0
   simp only [Bool.false_eq_true, if_false, heldV] at hlk
   obtain ⟨b0, fb⟩ := HDX.out.c1
   have hws := HW.out.size
   have HS0 := HOW
   go_wp2_with (first | (go_at_call 168; (with_reducible refine (lsdb_clone0 v 1 0 ov _).mono ?_); rintro e w5 ⟨rfl, hb⟩; replace HOW := Lib.hid (own_up HOW.out hb); have HW5 := Lib.hid (below_next HW.out hb); have hws5 := hb.size; clear hb b0 fb hlk) | (at_builtin; refine wpList_append_own _ rfl _ _ 47 rfl w1.heap.size 179 i0 (.agg #[.int .i64 0, .int .i64 0, .int .i64 0, .bool false, .slice none 0 0, .slice none 0 0]) 6 80 Tryz.underlying47 hi hz0 hz1 hz2 rfl (by decide) _ _ _ rfl (HOW.out.alloc _) ⟨_, 0, none⟩ 1 1 [.int .i64 v, .int .i64 1, .int .i64 0, .bool ov, .slice none 0 0, .slice none 0 0] rfl rfl ?c1 ?c2 ?c3 ?c4 ?c5 ?_))
   case c1 => exact cells_newX _ _ _
   case c2 => intro u hu; simp at hu; rcases hu with rfl | rfl | rfl | rfl | rfl | rfl <;> rfl
   case c3 => unfold maxLen; omega
   case c4 => omega
   case c5 => simp; omega
   intro v' w2 hown' hgrow _
   obtain ⟨A2, c2, rfl⟩ := own_slice hown'
   have hb2 : Below w1.heap.size w1 w2 := (HW5.out.alloc HW5.out.size _).grown hgrow (by simp; omega) (fun k hk => (HOW.out.lt k hk).1)
   have HB2 := Lib.hid hb2
   have HO2 := Lib.hid hown'
   clear hown' hgrow hb2
   go_wp2_with fail
   go_roundg (gk - 1)
   case measure => omega
   case rel => exact ⟨1, by omega, by go_num, Lib.hid ⟨_, _, _, rfl, rfl⟩, Lib.hid (by simpa using HO2.out), HB2⟩
  ·obtain rfl : n = 1 := by omega
   go_wp2_with fail
   go_ret
   exact ⟨⟨_, _, _, rfl⟩, below_next HB.out HW.out⟩
set_option maxHeartbeats 1000000 in
theorem speaker_Database0 {t : Topo} {v : Int} {sb : Nat} (hv : isN 1000000 v = true) (h : SpkAt t v sb w) :
  Calls Tryz.prog 50 #[.pointer (some ⟨sb, 0, none⟩)] w fun e w' => (∃ A n c, e = .returned (.slice A n c)) ∧ Below w.heap.size w w' := by
 obtain ⟨db, mb, A1, A2, c1, c2, x3, x4, x5, x6, x7, x8, x9, x10, x11, x13, x14, h1, h2, h3, h4⟩ := h
 have h12 := h1.cell 12 rfl
 have HX := Lib.hid (lsdb_All1 db mb v _ hv h3 h4)
 clear h1 h2 h3 h4
 go_enter Tryz.func50, Tryz.ntmps50
 go_wp2_with (go_at_call 121; refine HX.out.mono ?_; rintro e w1 ⟨⟨A, n, c, rfl⟩, hb⟩)
 go_ret
 exact ⟨⟨_, _, _, rfl⟩, hb⟩
set_option maxHeartbeats 1000000 in
theorem router_Database0 {t : Topo} {v : Int} {rb sb : Nat} (hv : isN 1000000 v = true) (hc : w.cell? ⟨rb, 6, none⟩ = some (.pointer (some ⟨sb, 0, none⟩))) (h : SpkAt t v sb w) :
  Calls Tryz.prog 14 #[.pointer (some ⟨rb, 0, none⟩)] w fun e w' => (∃ A n c, e = .returned (.slice A n c)) ∧ Below w.heap.size w w' := by
 have HX := Lib.hid (speaker_Database0 hv h)
 clear h
 go_enter Tryz.func14, Tryz.ntmps14
 go_wp2_with (go_at_call 50; refine HX.out.mono ?_; rintro e w1 ⟨⟨A, n, c, rfl⟩, hb⟩)
 go_ret
 exact ⟨⟨_, _, _, rfl⟩, hb⟩
set_option maxRecDepth 100000 in
set_option maxHeartbeats 2000000 in
theorem router_View0 {t : Topo} {v : Int} {rb sb : Nat} (hv : valid t = true) (hn : isN t.n v = true) (hc : w.cell? ⟨rb, 6, none⟩ = some (.pointer (some ⟨sb, 0, none⟩))) (h : SpkAt t v sb w) :
  Calls Tryz.prog 176 #[.pointer (some ⟨rb, 0, none⟩)] w fun e w' => (∃ a p1 n1 m1 p2 n2 m2 A n c, e = .returned (.tuple #[.agg #[.int .i64 a, .slice p1 n1 m1, .slice p2 n2 m2], .slice A n c])) ∧ Below w.heap.size w w' := by
 have hlt := block_lt_of_cell hc
 have HX := Lib.hid (h.up (below_box w (.cells #[.int .i64 0, .slice none 0 0, .slice none 0 0] 25)))
 have HY := Lib.hid (Bl.new w #[.int .i64 0, .slice none 0 0, .slice none 0 0] 25)
 have HB := Lib.hid (below_box w (.cells #[.int .i64 0, .slice none 0 0, .slice none 0 0] 25))
 have HV := Lib.hid hv
 have HN := Lib.hid hn
 clear h hv hn
 go_enter Tryz.func176, Tryz.ntmps176
 go_wp2_with (go_at_call 81; (with_reducible refine (speaker_View0 sb v t _ HV.out HN.out HX.out).mono ?_); rintro e w3 ⟨B1, B2, d1, d2, D, rfl, hvw, hb⟩; have HY3 := Lib.hid (HY.out.up hb); have HB3 := Lib.hid (HB.out.trans (hb.mono (by simp))); obtain ⟨y0, y1, y2, fy⟩ := HY3.out.c3; clear hb hvw hc)
 exact bodyPost_ret (v := .tuple #[.agg #[.int .i64 t.n, .slice B1 (viewT t v).ov.length d1, .slice B2 t.ls.length d2], .slice D (2 * t.ls.length) (2 * t.ls.length)]) (by simp [results, Tryz.results176, go_sem, y0, y1, y2]) rfl ⟨⟨_, _, _, _, _, _, _, _, _, _, rfl⟩, by (repeat' (first | (with_reducible exact HB3.out) | (with_reducible refine Bset ?_ ?_) | (with_reducible refine Bdrw ?_) | (with_reducible refine Bbox ?_ ?_) | omega | (simp; done) | (simp; omega)))⟩
theorem rou_View {t : Topo} {v : Int} {rb : Nat} (hv : valid t = true) (hn : isN t.n v = true) (h : RouAt t v rb w) :
  Calls Tryz.prog 176 #[.pointer (some ⟨rb, 0, none⟩)] w fun e w' => (∃ a p1 n1 m1 p2 n2 m2 A n c, e = .returned (.tuple #[.agg #[.int .i64 a, .slice p1 n1 m1, .slice p2 n2 m2], .slice A n c])) ∧ Below w.heap.size w w' := by
 obtain ⟨sb, C1, C2, B1, B2, D, e1, e2, d1, d2, g, s, hr, hc, hw, hs⟩ := h
 exact router_View0 hv hn (hr.cell 6 rfl) hs
theorem rou_Database {t : Topo} {v : Int} {rb : Nat} (hv : isN 1000000 v = true) (h : RouAt t v rb w) :
  Calls Tryz.prog 14 #[.pointer (some ⟨rb, 0, none⟩)] w fun e w' => (∃ A n c, e = .returned (.slice A n c)) ∧ Below w.heap.size w w' := by
 obtain ⟨sb, C1, C2, B1, B2, D, e1, e2, d1, d2, g, s, hr, hc, hw, hs⟩ := h
 exact router_Database0 hv (hr.cell 6 rfl) hs
set_option maxRecDepth 100000 in
set_option maxHeartbeats 4000000 in
theorem net_look0 {t : Topo} {nb rr rb N k : Nat} (hk : k < N) (hv : valid t = true) (hn : isN t.n (k : Int) = true) (hc : w.cell? ⟨nb, 15, none⟩ = some (.slice (some ⟨rr, 0, none⟩) N N)) (hp : w.cell? ⟨rr, k, none⟩ = some (.pointer (some ⟨rb, 0, none⟩))) (h : RouAt t (k : Int) rb w) :
  Calls Tryz.prog 126 #[.pointer (some ⟨nb, 0, none⟩), .int .i64 (k : Int)] w fun e w' => (∃ A n c B m d, e = .returned (.agg #[.slice A n c, .slice B m d, .int .i64 3])) ∧ Below w.heap.size w w' := by
 have hlt := block_lt_of_cell hc
 have hlt2 := block_lt_of_cell hp
 have hX := h.up (below_box w (.cells #[.slice none 0 0, .slice none 0 0, .int .i64 0] 228))
 obtain ⟨h0, h1⟩ := isN_true.1 hn
 have hv64 : isN 1000000 (k : Int) = true := isN_true.2 ⟨by omega, by have := valid_n hv; omega⟩
 have HX := Lib.hid hX
 have HY := Lib.hid (Bl.new w #[.slice none 0 0, .slice none 0 0, .int .i64 0] 228)
 have HB := Lib.hid (below_box w (.cells #[.slice none 0 0, .slice none 0 0, .int .i64 0] 228))
 have HV := Lib.hid hv
 have HN := Lib.hid hn
 have HV6 := Lib.hid hv64
 have hki : (k : Int) < (N : Int) := by omega
 clear h hX hv hn hv64 h0 h1
 go_enter Tryz.func126, Tryz.ntmps126
 go_upto_region 3 with (go_at_call 176; (with_reducible refine (rou_View HV.out HN.out HX.out).mono ?_); rintro e w3 ⟨⟨a, p1, n1, m1, p2, n2, m2, A, n, c, rfl⟩, hb⟩; replace HX := Lib.hid (HX.out.up hb); replace HY := Lib.hid (HY.out.up hb); replace HB := Lib.hid (below_next HB.out hb); clear hb hc hp)
 refine wp_named4 (fun Y => RouAt t (k : Int) rb Y ∧ Bl 228 w.heap.size #[.slice none 0 0, .slice none 0 0, .int .i64 0] Y ∧ Below w.heap.size w Y ∧ w.heap.size < Y.heap.size) ⟨HX.out.up (below_box _ _), HY.out.up (below_box _ _), below_next HB.out (below_box _ _), by have := HY.out.lt; simp; omega⟩ ?_
 rintro Y ⟨hY1, hY2, hY3, hY4⟩
 replace HX := Lib.hid hY1
 replace HY := Lib.hid hY2
 replace HB := Lib.hid hY3
 clear hY1 hY2 hY3
 go_wp2_with (first | (go_at_call 14; (with_reducible refine (rou_Database HV6.out HX.out).mono ?_); rintro e w4 ⟨⟨A4, n4, c4, rfl⟩, hb⟩; replace HX := Lib.hid (HX.out.up hb); replace HY := Lib.hid (HY.out.up hb); replace HB := Lib.hid (below_next HB.out hb); clear hb) | (go_at_call 12; (with_reducible refine (rou_State HV.out HX.out).mono ?_); rintro e w5 ⟨rfl, hb⟩; replace HX := Lib.hid (HX.out.up hb); replace HY := Lib.hid (HY.out.up hb); replace HB := Lib.hid (below_next HB.out hb); obtain ⟨y0, y1, y2, fy⟩ := HY.out.c3; clear hb))
 exact bodyPost_ret (v := .agg #[.slice A4 n4 c4, .slice A n c, .int .i64 3]) (by simp [results, Tryz.results126, go_sem, y0, y1, y2]) rfl ⟨⟨_, _, _, _, _, _, rfl⟩, by (repeat' (first | (with_reducible exact HB.out) | (with_reducible refine Bset ?_ ?_) | (with_reducible refine Bdrw ?_) | (with_reducible refine Bbox ?_ ?_) | omega | (simp; done) | (simp; omega)))⟩
end
end Go.Proofs.YtenhliibmcmnbaaGreat
