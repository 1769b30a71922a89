/-
  network.boot at a fresh network (printed by gen_nvk.py).
  What network.New needs: its own closure, lists made by make, an append that says where it lies (printed by gen_nvl.py).
  waypointlaw54.few (printed by gen_nvn.py).
-/
import Derived.Test.YtenhliibmcmnbaaGreatPkRtI
import Derived.Deep.AppendLies
namespace Go.Proofs.YtenhliibmcmnbaaGreat
set_option linter.unusedSimpArgs false
set_option linter.unusedVariables false
open Go.RowKit Go.Sort
theorem Bl.neT {T T' : TypeId} {b b' : Nat} {cs cs' : Array Value} {w : World} (h : Bl T b cs w) (h' : Bl T' b' cs' w) (hT : T ≠ T') : b ≠ b' := by
 rintro rfl
 have e := h.symm.trans h'
 injection e with e
 injection e with _ e2 _
 exact hT e2
theorem cell_far {w : World} {b c i j : Nat} {x u : Value} (h : b ≠ c) (hx : w.cell? ⟨b, i, none⟩ = some x) : (w.setCell ⟨c, j, none⟩ u).cell? ⟨b, i, none⟩ = some x := by
 rw [World.cell?_setCell_other w _ _ _ (fun e => by injection e with e1 _ _; first | exact h e1 | exact h e1.symm)]; exact hx
/-- The cells of a network. -/
theorem Bl.c25 {T : TypeId} {b : Nat} {a0 a1 a2 a3 a4 a5 a6 a7 a8 a9 a10 a11 a12 a13 a14 a15 a16 a17 a18 a19 a20 a21 a22 a23 a24 : Value} {w : World} (h : Bl T b #[a0, a1, a2, a3, a4, a5, a6, a7, a8, a9, a10, a11, a12, a13, a14, a15, a16, a17, a18, a19, a20, a21, a22, a23, a24] w) : w.cell? ⟨b, 0, none⟩ = some a0 ∧ w.cell? ⟨b, 1, none⟩ = some a1 ∧ w.cell? ⟨b, 2, none⟩ = some a2 ∧ w.cell? ⟨b, 3, none⟩ = some a3 ∧ w.cell? ⟨b, 4, none⟩ = some a4 ∧ w.cell? ⟨b, 5, none⟩ = some a5 ∧ w.cell? ⟨b, 6, none⟩ = some a6 ∧ w.cell? ⟨b, 7, none⟩ = some a7 ∧ w.cell? ⟨b, 8, none⟩ = some a8 ∧ w.cell? ⟨b, 9, none⟩ = some a9 ∧ w.cell? ⟨b, 10, none⟩ = some a10 ∧ w.cell? ⟨b, 11, none⟩ = some a11 ∧ w.cell? ⟨b, 12, none⟩ = some a12 ∧ w.cell? ⟨b, 13, none⟩ = some a13 ∧ w.cell? ⟨b, 14, none⟩ = some a14 ∧ w.cell? ⟨b, 15, none⟩ = some a15 ∧ w.cell? ⟨b, 16, none⟩ = some a16 ∧ w.cell? ⟨b, 17, none⟩ = some a17 ∧ w.cell? ⟨b, 18, none⟩ = some a18 ∧ w.cell? ⟨b, 19, none⟩ = some a19 ∧ w.cell? ⟨b, 20, none⟩ = some a20 ∧ w.cell? ⟨b, 21, none⟩ = some a21 ∧ w.cell? ⟨b, 22, none⟩ = some a22 ∧ w.cell? ⟨b, 23, none⟩ = some a23 ∧ w.cell? ⟨b, 24, none⟩ = some a24 ∧ ∀ i, w.frozen? ⟨b, i, none⟩ = false :=
 ⟨h.cell 0 rfl, h.cell 1 rfl, h.cell 2 rfl, h.cell 3 rfl, h.cell 4 rfl, h.cell 5 rfl, h.cell 6 rfl, h.cell 7 rfl, h.cell 8 rfl, h.cell 9 rfl, h.cell 10 rfl, h.cell 11 rfl, h.cell 12 rfl, h.cell 13 rfl, h.cell 14 rfl, h.cell 15 rfl, h.cell 16 rfl, h.cell 17 rfl, h.cell 18 rfl, h.cell 19 rfl, h.cell 20 rfl, h.cell 21 rfl, h.cell 22 rfl, h.cell 23 rfl, h.cell 24 rfl, h.frz⟩
theorem Rd.setP {w : World} {A : Option Addr} {xs : List Value} {rr k : Nat} {cs : Array Value} {u : Value} {T : TypeId} (h : Rd w A xs) (hx : ∀ v ∈ xs, ∀ p, v ≠ .pointer p) (hr : Bl T rr cs w) (hp : ∀ (j : Nat) (v : Value), cs[j]? = some v → ∃ p, v = .pointer p) : Rd (w.setCell ⟨rr, k, none⟩ u) A xs := by
 rcases h with rfl | ⟨g, o, rfl, hc⟩
 ·exact .inl rfl
 refine .inr ⟨g, o, rfl, fun i v hv => ?_⟩
 have hcv := hc i v hv
 rw [World.cell?_setCell_other w _ _ _ (fun e => ?_)]
 ·exact hcv
 ·injection e with e1 e2 _
  have hg : g = rr := by first | exact e1 | exact e1.symm
  subst hg
  rw [Lib.cell_of_heap hr] at hcv
  obtain ⟨p, rfl⟩ := hp _ _ hcv
  exact hx _ (List.mem_of_getElem? hv) p rfl
theorem bools_np (l : List Bool) : ∀ v ∈ l.map Value.bool, ∀ p, v ≠ .pointer p := by
 intro v hv p e
 subst e
 simp at hv
theorem lnks_np (l : List Lnk) : ∀ v ∈ l.flatMap lnkV, ∀ p, v ≠ .pointer p := by
 intro v hv p e
 subst e
 simp [lnkV] at hv
theorem TAt.setP {w : World} {A1 A2 : Option Addr} {t : Topo} {rr k : Nat} {cs : Array Value} {u : Value} {T : TypeId} (h : TAt w A1 A2 t) (hr : Bl T rr cs w) (hp : ∀ (j : Nat) (v : Value), cs[j]? = some v → ∃ p, v = .pointer p) : TAt (w.setCell ⟨rr, k, none⟩ u) A1 A2 t :=
 ⟨h.ov.setP (bools_np _) hr hp, rdl_of_rd ((rd_of_rdl h.ls).setP (lnks_np _) hr hp)⟩
theorem RouAt.setP {t : Topo} {v : Int} {rb : Nat} {w : World} {rr k : Nat} {cs : Array Value} {u : Value} (h : RouAt t v rb w) (hr : Bl 30 rr cs w) (hp : ∀ (j : Nat) (v : Value), cs[j]? = some v → ∃ p, v = .pointer p) : RouAt t v rb (w.setCell ⟨rr, k, none⟩ u) := by
 obtain ⟨sb, D1, D2, B1, B2, D, e1, e2, d1, d2, g, s, h1, h2, h3, h4⟩ := h
 refine ⟨sb, D1, D2, B1, B2, D, e1, e2, d1, d2, g, s, h1.other (h1.neT hr (by decide)) _, h2.setP hr hp, ⟨h3.1.setP hr hp, h3.2.1.setP (bools_np _) hr hp, h3.2.2⟩, ?_⟩
 obtain ⟨db, mb, F1, F2, f1, f2, x3, x4, x5, x6, x7, x8, x9, x10, x11, x13, x14, g1, g2, g3, g4⟩ := h4
 refine ⟨db, mb, F1, F2, f1, f2, x3, x4, x5, x6, x7, x8, x9, x10, x11, x13, x14, g1.other (g1.neT hr (by decide)) _, g2.setP hr hp, g3.other (g3.neT hr (by decide)) _, g4.kept (Below.heap_setCell _ _ _ _ ?_)⟩
 intro e
 obtain ⟨es, clock, hm, _⟩ := g4
 have e' : mb = rr := e
 subst e'
 have h5 := hm.symm.trans hr
 injection h5 with h5
 cases h5
/-- A network that is being made: the nodes below k have their routers. -/
structure NB (t : Topo) (h1 h2 h3 g s : Int) (N nb rr bb lr : Nat) (C1 C2 : Option Addr) (e1 e2 : Nat) (x8 x9 x10 x11 x12 x14 x18 x19 x20 x22 x24 : Value) (W1 : World) (k : Nat) (W : World) : Prop where
 n : Bl 138 nb #[.int .i64 t.n, .slice C1 t.ov.length e1, .slice C2 t.ls.length e2, .int .i64 h1, .int .i64 h2, .int .i64 h3, .int .i64 g, .int .i64 s, x8, x9, x10, x11, x12, .int .i64 0, x14, .slice (some ⟨rr, 0, none⟩) N N, .slice (some ⟨bb, 0, none⟩) N N, .slice (some ⟨lr, 0, none⟩) N N, x18, x19, x20, .slice none 0 0, x22, .slice none 0 0, x24] W
 r : ∃ cs, Bl 30 rr cs W ∧ cs.size = N ∧ ∀ (j : Nat) (v : Value), cs[j]? = some v → ∃ p, v = .pointer p
 o : ∃ cs, Bl 3 bb cs W ∧ cs.size = N ∧ ∀ j, k ≤ j → j < N → cs[j]? = some (.int .i64 0)
 l : ∃ cs, Bl 228 lr cs W ∧ cs.size = N * 3
 b : Below W1.heap.size W1 W
 q : W1.heap.size ≤ nb ∧ W1.heap.size ≤ rr ∧ W1.heap.size ≤ bb ∧ W1.heap.size ≤ lr
/-- What boot loads. -/
def SBF (t : Topo) (h1 h2 h3 g s : Int) (N nb rr bb lr k : Nat) (C1 C2 : Option Addr) (e1 e2 : Nat) (W : World) : Prop :=
 W.cell? ⟨nb, 0, none⟩ = some (.int .i64 t.n) ∧ W.cell? ⟨nb, 1, none⟩ = some (.slice C1 t.ov.length e1) ∧ W.cell? ⟨nb, 2, none⟩ = some (.slice C2 t.ls.length e2) ∧ W.cell? ⟨nb, 3, none⟩ = some (.int .i64 h1) ∧ W.cell? ⟨nb, 4, none⟩ = some (.int .i64 h2) ∧ W.cell? ⟨nb, 5, none⟩ = some (.int .i64 h3) ∧ W.cell? ⟨nb, 6, none⟩ = some (.int .i64 g) ∧ W.cell? ⟨nb, 7, none⟩ = some (.int .i64 s) ∧ W.cell? ⟨nb, 15, none⟩ = some (.slice (some ⟨rr, 0, none⟩) N N) ∧ W.cell? ⟨nb, 16, none⟩ = some (.slice (some ⟨bb, 0, none⟩) N N) ∧ W.cell? ⟨nb, 17, none⟩ = some (.slice (some ⟨lr, 0, none⟩) N N) ∧ W.cell? ⟨bb, k, none⟩ = some (.int .i64 1)
theorem SBF.up {t : Topo} {h1 h2 h3 g s : Int} {N nb rr bb lr k : Nat} {C1 C2 : Option Addr} {e1 e2 : Nat} {W W' : World} (hb : Below W.heap.size W W') (h : SBF t h1 h2 h3 g s N nb rr bb lr k C1 C2 e1 e2 W) : SBF t h1 h2 h3 g s N nb rr bb lr k C1 C2 e1 e2 W' :=
 ⟨cell_up hb h.1, cell_up hb h.2.1, cell_up hb h.2.2.1, cell_up hb h.2.2.2.1, cell_up hb h.2.2.2.2.1, cell_up hb h.2.2.2.2.2.1, cell_up hb h.2.2.2.2.2.2.1, cell_up hb h.2.2.2.2.2.2.2.1, cell_up hb h.2.2.2.2.2.2.2.2.1, cell_up hb h.2.2.2.2.2.2.2.2.2.1, cell_up hb h.2.2.2.2.2.2.2.2.2.2.1, cell_up hb h.2.2.2.2.2.2.2.2.2.2.2⟩
theorem SBF.set {t : Topo} {h1 h2 h3 g s : Int} {N nb rr bb lr k : Nat} {C1 C2 : Option Addr} {e1 e2 : Nat} {W : World} {b j : Nat} {u : Value} (hn : nb ≠ b) (ho : bb ≠ b) (h : SBF t h1 h2 h3 g s N nb rr bb lr k C1 C2 e1 e2 W) : SBF t h1 h2 h3 g s N nb rr bb lr k C1 C2 e1 e2 (W.setCell ⟨b, j, none⟩ u) :=
 ⟨cell_far hn h.1, cell_far hn h.2.1, cell_far hn h.2.2.1, cell_far hn h.2.2.2.1, cell_far hn h.2.2.2.2.1, cell_far hn h.2.2.2.2.2.1, cell_far hn h.2.2.2.2.2.2.1, cell_far hn h.2.2.2.2.2.2.2.1, cell_far hn h.2.2.2.2.2.2.2.2.1, cell_far hn h.2.2.2.2.2.2.2.2.2.1, cell_far hn h.2.2.2.2.2.2.2.2.2.2.1, cell_far ho h.2.2.2.2.2.2.2.2.2.2.2⟩
section
variable {w : World}
set_option maxRecDepth 100000 in
set_option maxHeartbeats 8000000 in
theorem net_boot0 {t : Topo} {h1 h2 h3 g s : Int} {N nb rr bb lr : Nat} {C1 C2 : Option Addr} {e1 e2 : Nat} {x8 x9 x10 x11 x12 x14 x18 x19 x20 x22 x24 : Value} {W1 : World} {k : Nat} (hk : k < N) (hN : t.n = (N : Int)) (hv : valid t = true) (ht : tmsOk [h1, h2, h3, g, s] = true) (hT : TAt W1 C1 C2 t) (h : NB t h1 h2 h3 g s N nb rr bb lr C1 C2 e1 e2 x8 x9 x10 x11 x12 x14 x18 x19 x20 x22 x24 W1 k w) :
  Calls Tryz.prog 60 #[.pointer (some ⟨nb, 0, none⟩), .int .i64 (k : Int)] w fun e w' => e = .returned (.tuple #[]) ∧ NB t h1 h2 h3 g s N nb rr bb lr C1 C2 e1 e2 x8 x9 x10 x11 x12 x14 x18 x19 x20 x22 x24 W1 (k + 1) w' := by
 obtain ⟨hn, ⟨cr, hr, hrs, hrp⟩, ⟨co, ho, hos, hoz⟩, ⟨cl, hl, hls⟩, hb, hq⟩ := h
 have hN1 : N ≤ 64 := by have := valid_n hv; omega
 have hnr := hn.neT hr (by decide)
 have hno := hn.neT ho (by decide)
 have hnl := hn.neT hl (by decide)
 have hro := hr.neT ho (by decide)
 have hrl := hr.neT hl (by decide)
 have hol := ho.neT hl (by decide)
 have c0 := ho.cell k (hoz k (Nat.le_refl _) hk)
 have f0 := ho.frz k
 have HOZ := Lib.hid hoz
 have z16 := hn.cell 16 rfl
 have hn2 := hn.other (c := bb) (j := k) hno (.int .i64 1)
 have hr2 := hr.other (c := bb) (j := k) hro (.int .i64 1)
 have ho2 := ho.set k (.int .i64 1) rfl
 have hl2 := hl.other (c := bb) (j := k) hol.symm (.int .i64 1)
 have hb2 := Bset (j := k) (v := .int .i64 1) hb hq.2.2.1
 have HN := Lib.hid hn2
 have HR := Lib.hid hr2
 have HO := Lib.hid ho2
 have HL := Lib.hid hl2
 have HB := Lib.hid hb2
 have HT := Lib.hid hT
 have HV := Lib.hid hv
 have HTM := Lib.hid ht
 have HQ := Lib.hid hq
 have hki : (k : Int) < (N : Int) := by omega
 have hisn : isN t.n (k : Int) = true := isN_true.2 ⟨by omega, by omega⟩
 have HIS := Lib.hid hisn
 have HNN := Lib.hid hN
 clear hn hr ho hl hb hn2 hr2 ho2 hl2 hb2 hT hv ht hoz hisn hN
 go_enter Tryz.func60, Tryz.ntmps60
 have hnk : newK t (k : Int) 1 h1 h2 h3 g s = 0 := by
  have e1 : inR (1 : Int) 1 1073741824 = true := by decide
  simp [newK, HV.out, HTM.out, e1, HIS.out]
 have HNK := Lib.hid hnk
 clear hnk
 obtain ⟨l0, hl0⟩ : ∃ rv, cl[k * 3]? = some rv := ⟨_, Array.getElem?_eq_getElem (by omega)⟩
 obtain ⟨l1, hl1⟩ : ∃ rv, cl[k * 3 + 1]? = some rv := ⟨_, Array.getElem?_eq_getElem (by omega)⟩
 obtain ⟨l2, hl2⟩ : ∃ rv, cl[k * 3 + 2]? = some rv := ⟨_, Array.getElem?_eq_getElem (by omega)⟩
 have HC0 := Lib.hid hl0
 have HC1 := Lib.hid hl1
 have HC2 := Lib.hid hl2
 have HRP := Lib.hid hrp
 have HRS := Lib.hid hrs
 have HOS := Lib.hid hos
 have HLS := Lib.hid hls
 clear hl0 hl1 hl2 hrp
 obtain ⟨rv, hrv⟩ : ∃ rv, cr[k]? = some rv := ⟨_, Array.getElem?_eq_getElem (by omega)⟩
 have HRV := Lib.hid hrv
 clear hrv
 go_upto_region 1 with fail
 refine wp_named4 (fun Y => Bl 138 nb #[.int .i64 t.n, .slice C1 t.ov.length e1, .slice C2 t.ls.length e2, .int .i64 h1, .int .i64 h2, .int .i64 h3, .int .i64 g, .int .i64 s, x8, x9, x10, x11, x12, .int .i64 0, x14, .slice (some ⟨rr, 0, none⟩) N N, .slice (some ⟨bb, 0, none⟩) N N, .slice (some ⟨lr, 0, none⟩) N N, x18, x19, x20, .slice none 0 0, x22, .slice none 0 0, x24] Y ∧ Bl 30 rr cr Y ∧ Bl 3 bb (co.setIfInBounds k (.int .i64 1)) Y ∧ Bl 228 lr cl Y ∧ Below W1.heap.size W1 Y) ⟨HN.out, HR.out, HO.out, HL.out, HB.out⟩ ?_
 rintro Y ⟨hY1, hY2, hY3, hY4, hY5⟩
 replace HN := Lib.hid hY1
 replace HR := Lib.hid hY2
 replace HO := Lib.hid hY3
 replace HL := Lib.hid hY4
 replace HB := Lib.hid hY5
 have cb := hY3.cell k (v := .int .i64 1) (by rw [Array.getElem?_setIfInBounds]; simp; omega)
 obtain ⟨a0, a1, a2, a3, a4, a5, a6, a7, -, -, -, -, -, -, -, a15, a16, a17, -, -, -, -, -, -, -, -⟩ := hY1.c25
 have hsb : SBF t h1 h2 h3 g s N nb rr bb lr k C1 C2 e1 e2 Y := ⟨a0, a1, a2, a3, a4, a5, a6, a7, a15, a16, a17, cb⟩
 have HSB := Lib.hid hsb
 clear hY1 hY2 hY3 hY4 hY5 cb a0 a1 a2 a3 a4 a5 a6 a7 a15 a16 a17 hsb c0 f0 z16
 refine wp_region_held_drew (S := (fun W => W.cell? ⟨nb, 0, none⟩ = some (.int .i64 t.n) ∧ W.cell? ⟨nb, 1, none⟩ = some (.slice C1 t.ov.length e1) ∧ W.cell? ⟨nb, 2, none⟩ = some (.slice C2 t.ls.length e2) ∧ W.cell? ⟨nb, 3, none⟩ = some (.int .i64 h1) ∧ W.cell? ⟨nb, 4, none⟩ = some (.int .i64 h2) ∧ W.cell? ⟨nb, 5, none⟩ = some (.int .i64 h3) ∧ W.cell? ⟨nb, 6, none⟩ = some (.int .i64 g) ∧ W.cell? ⟨nb, 7, none⟩ = some (.int .i64 s) ∧ W.cell? ⟨nb, 15, none⟩ = some (.slice (some ⟨rr, 0, none⟩) N N) ∧ W.cell? ⟨nb, 16, none⟩ = some (.slice (some ⟨bb, 0, none⟩) N N) ∧ W.cell? ⟨nb, 17, none⟩ = some (.slice (some ⟨lr, 0, none⟩) N N) ∧ W.cell? ⟨bb, k, none⟩ = some (.int .i64 1))) (by kernel_rfl) ?_ (fun hHeld => ?_)
 ·first | exact SBF.up hb hHeld | exact SBF.set hnr hro.symm hHeld | exact HSB.out
 (refine takeL (i := 0) (v := ?_) rfl (by kernel_rfl) (by decide +kernel) (by decide +kernel) (fun _ _ _ h => h) (Or.inl ⟨by rfl, ?_⟩) (by assumption) ?_; rotate_left; (focus (intro w9 hS9; (try dsimp only at hS9); go_simp; (try with_reducible rfl); done)))
 (try simp only [Act.put, List.setIfInBounds_toArray, List.set_cons_zero, List.set_cons_succ])
 (refine takeL (i := 1) (v := ?_) rfl (by kernel_rfl) (by decide +kernel) (by decide +kernel) (fun _ _ _ h => h) (Or.inl ⟨by rfl, ?_⟩) (by assumption) ?_; rotate_left; (focus (intro w9 hS9; (try dsimp only at hS9); go_simp; (try with_reducible rfl); done)))
 (try simp only [Act.put, List.setIfInBounds_toArray, List.set_cons_zero, List.set_cons_succ])
 (refine takeL (i := 2) (v := ?_) rfl (by kernel_rfl) (by decide +kernel) (by decide +kernel) (fun _ _ _ h => h) (Or.inl ⟨by rfl, ?_⟩) (by assumption) ?_; rotate_left; (focus (intro w9 hS9; (try dsimp only at hS9); go_simp; (try with_reducible rfl); done)))
 (try simp only [Act.put, List.setIfInBounds_toArray, List.set_cons_zero, List.set_cons_succ])
 (refine takeL (i := 3) (v := ?_) rfl (by kernel_rfl) (by decide +kernel) (by decide +kernel) (fun _ _ _ h => h) (Or.inl ⟨by rfl, ?_⟩) (by assumption) ?_; rotate_left; (focus (intro w9 hS9; (try dsimp only at hS9); go_simp; (try with_reducible rfl); done)))
 (try simp only [Act.put, List.setIfInBounds_toArray, List.set_cons_zero, List.set_cons_succ])
 (refine takeL (i := 4) (v := ?_) rfl (by kernel_rfl) (by decide +kernel) (by decide +kernel) (fun _ _ _ h => h) (Or.inl ⟨by rfl, ?_⟩) (by assumption) ?_; rotate_left; (focus (intro w9 hS9; (try dsimp only at hS9); go_simp; (try with_reducible rfl); done)))
 (try simp only [Act.put, List.setIfInBounds_toArray, List.set_cons_zero, List.set_cons_succ])
 (refine takeL (i := 5) (v := ?_) rfl (by kernel_rfl) (by decide +kernel) (by decide +kernel) (fun _ _ _ h => h) (Or.inl ⟨by rfl, ?_⟩) (by assumption) ?_; rotate_left; (focus (intro w9 hS9; (try dsimp only at hS9); go_simp; (try with_reducible rfl); done)))
 (try simp only [Act.put, List.setIfInBounds_toArray, List.set_cons_zero, List.set_cons_succ])
 (refine takeL (i := 6) (v := ?_) rfl (by kernel_rfl) (by decide +kernel) (by decide +kernel) (fun _ _ _ h => h) (Or.inl ⟨by rfl, ?_⟩) (by assumption) ?_; rotate_left; (focus (intro w9 hS9; (try dsimp only at hS9); go_simp; (try with_reducible rfl); done)))
 (try simp only [Act.put, List.setIfInBounds_toArray, List.set_cons_zero, List.set_cons_succ])
 (refine takeL (i := 7) (v := ?_) rfl (by kernel_rfl) (by decide +kernel) (by decide +kernel) (fun _ _ _ h => h) (Or.inl ⟨by rfl, ?_⟩) (by assumption) ?_; rotate_left; (focus (intro w9 hS9; (try dsimp only at hS9); go_simp; (try with_reducible rfl); done)))
 (try simp only [Act.put, List.setIfInBounds_toArray, List.set_cons_zero, List.set_cons_succ])
 (refine takeL (i := 8) (v := ?_) rfl (by kernel_rfl) (by decide +kernel) (by decide +kernel) (fun _ _ _ h => h) (Or.inl ⟨by rfl, ?_⟩) (by assumption) ?_; rotate_left; (focus (intro w9 hS9; (try dsimp only at hS9); go_simp; (try with_reducible rfl); done)))
 (try simp only [Act.put, List.setIfInBounds_toArray, List.set_cons_zero, List.set_cons_succ])
 (refine takeL (i := 9) (v := ?_) rfl (by kernel_rfl) (by decide +kernel) (by decide +kernel) (fun _ _ _ h => h) (Or.inl ⟨by rfl, ?_⟩) (by assumption) ?_; rotate_left; (focus (intro w9 hS9; (try dsimp only at hS9); go_simp; (try with_reducible rfl); done)))
 (try simp only [Act.put, List.setIfInBounds_toArray, List.set_cons_zero, List.set_cons_succ])
 (refine takeL (i := 10) (v := ?_) rfl (by kernel_rfl) (by decide +kernel) (by decide +kernel) (fun _ _ _ h => h) (Or.inl ⟨by rfl, ?_⟩) (by assumption) ?_; rotate_left; (focus (intro w9 hS9; (try dsimp only at hS9); go_simp; (try with_reducible rfl); done)))
 (try simp only [Act.put, List.setIfInBounds_toArray, List.set_cons_zero, List.set_cons_succ])
 (refine takeL (i := 11) (v := ?_) rfl (by kernel_rfl) (by decide +kernel) (by decide +kernel) (fun _ _ _ h => h) (Or.inl ⟨by rfl, ?_⟩) (by assumption) ?_; rotate_left; (focus (intro w9 hS9; (try dsimp only at hS9); go_simp; (try with_reducible rfl); done)))
 (try simp only [Act.put, List.setIfInBounds_toArray, List.set_cons_zero, List.set_cons_succ])
 (refine takeL (i := 12) (v := ?_) rfl (by kernel_rfl) (by decide +kernel) (by decide +kernel) (fun _ _ _ h => h) (Or.inl ⟨by rfl, ?_⟩) (by assumption) ?_; rotate_left; (focus (intro w9 hS9; (try dsimp only at hS9); go_simp; (try with_reducible rfl); done)))
 (try simp only [Act.put, List.setIfInBounds_toArray, List.set_cons_zero, List.set_cons_succ])
 (refine takeL (i := 13) (v := ?_) rfl (by kernel_rfl) (by decide +kernel) (by decide +kernel) (fun _ _ _ h => h) (Or.inl ⟨by rfl, ?_⟩) (by assumption) ?_; rotate_left; (focus (intro w9 hS9; (try dsimp only at hS9); go_simp; (try with_reducible rfl); done)))
 (try simp only [Act.put, List.setIfInBounds_toArray, List.set_cons_zero, List.set_cons_succ])
 (refine takeL (i := 14) (v := ?_) rfl (by kernel_rfl) (by decide +kernel) (by decide +kernel) (fun _ _ _ h => h) (Or.inl ⟨by rfl, ?_⟩) (by assumption) ?_; rotate_left; (focus (intro w9 hS9; (try dsimp only at hS9); go_simp; (try with_reducible rfl); done)))
 (try simp only [Act.put, List.setIfInBounds_toArray, List.set_cons_zero, List.set_cons_succ])
 (refine takeL (i := 15) (v := ?_) rfl (by kernel_rfl) (by decide +kernel) (by decide +kernel) (fun _ _ _ h => h) (Or.inl ⟨by rfl, ?_⟩) (by assumption) ?_; rotate_left; (focus (intro w9 hS9; (try dsimp only at hS9); go_simp; (try with_reducible rfl); done)))
 (try simp only [Act.put, List.setIfInBounds_toArray, List.set_cons_zero, List.set_cons_succ])
 (refine takeL (i := 16) (v := ?_) rfl (by kernel_rfl) (by decide +kernel) (by decide +kernel) (fun _ _ _ h => h) (Or.inl ⟨by rfl, ?_⟩) (by assumption) ?_; rotate_left; (focus (intro w9 hS9; (try dsimp only at hS9); go_simp; (try with_reducible rfl); done)))
 (try simp only [Act.put, List.setIfInBounds_toArray, List.set_cons_zero, List.set_cons_succ])
 (refine takeL (i := 17) (v := ?_) rfl (by kernel_rfl) (by decide +kernel) (by decide +kernel) (fun _ _ _ h => h) (Or.inl ⟨by rfl, ?_⟩) (by assumption) ?_; rotate_left; (focus (intro w9 hS9; (try dsimp only at hS9); go_simp; (try with_reducible rfl); done)))
 (try simp only [Act.put, List.setIfInBounds_toArray, List.set_cons_zero, List.set_cons_succ])
 (refine takeL (i := 18) (v := ?_) rfl (by kernel_rfl) (by decide +kernel) (by decide +kernel) (fun _ _ _ h => h) (Or.inl ⟨by rfl, ?_⟩) (by assumption) ?_; rotate_left; (focus (intro w9 hS9; (try dsimp only at hS9); go_simp; (try with_reducible rfl); done)))
 (try simp only [Act.put, List.setIfInBounds_toArray, List.set_cons_zero, List.set_cons_succ])
 (refine takeL (i := 19) (v := ?_) rfl (by kernel_rfl) (by decide +kernel) (by decide +kernel) (fun _ _ _ h => h) (Or.inl ⟨by rfl, ?_⟩) (by assumption) ?_; rotate_left; (focus (intro w9 hS9; (try dsimp only at hS9); go_simp; (try with_reducible rfl); done)))
 (try simp only [Act.put, List.setIfInBounds_toArray, List.set_cons_zero, List.set_cons_succ])
 (refine takeL (i := 20) (v := ?_) rfl (by kernel_rfl) (by decide +kernel) (by decide +kernel) (fun _ _ _ h => h) (Or.inl ⟨by rfl, ?_⟩) (by assumption) ?_; rotate_left; (focus (intro w9 hS9; (try dsimp only at hS9); go_simp; (try with_reducible rfl); done)))
 (try simp only [Act.put, List.setIfInBounds_toArray, List.set_cons_zero, List.set_cons_succ])
 (refine takeL (i := 21) (v := ?_) rfl (by kernel_rfl) (by decide +kernel) (by decide +kernel) (fun _ _ _ h => h) (Or.inl ⟨by rfl, ?_⟩) (by assumption) ?_; rotate_left; (focus (intro w9 hS9; (try dsimp only at hS9); go_simp; (try with_reducible rfl); done)))
 (try simp only [Act.put, List.setIfInBounds_toArray, List.set_cons_zero, List.set_cons_succ])
 (refine takeL (i := 22) (v := ?_) rfl (by kernel_rfl) (by decide +kernel) (by decide +kernel) (fun _ _ _ h => h) (Or.inl ⟨by rfl, ?_⟩) (by assumption) ?_; rotate_left; (focus (intro w9 hS9; (try dsimp only at hS9); go_simp; (try with_reducible rfl); done)))
 (try simp only [Act.put, List.setIfInBounds_toArray, List.set_cons_zero, List.set_cons_succ])
 refine wpAnyH_ready (rs := [23]) (by decide +kernel) (by simp) ?_
 refine consL rfl (fun K hK => ?_) ?_
 ·(first | (go_at_call 6; (with_reducible refine (router_New_all e1 e2 (HT.out.below (Bdrw HB.out))).mono ?_); rintro e w5 ⟨rp, kk, rfl, ⟨hkk, hor⟩, hb⟩; rw [HNK.out] at hkk; subst hkk; obtain ⟨rb, rfl, hrou, -⟩ : ∃ rb, rp = some ⟨rb, 0, none⟩ ∧ RouAt t (k : Int) rb w5 ∧ Y.drew.heap.size ≤ rb := hor.elim (fun h => absurd rfl h.1) (fun h => h.2); have HRO := Lib.hid hrou; clear hor hrou; replace HN := Lib.hid (Bl.via hb HN.out); replace HR := Lib.hid (Bl.via hb HR.out); replace HO := Lib.hid (Bl.via hb HO.out); replace HL := Lib.hid (Bl.via hb HL.out); replace HB := Lib.hid (below_next (Bdrw HB.out) hb); have rk := HR.out.cell k HRV.out; have rf := HR.out.frz k) | (go_simp; first | done | (first | (go_at_call 6; (with_reducible refine (router_New_all e1 e2 (HT.out.below (Bdrw HB.out))).mono ?_); rintro e w5 ⟨rp, kk, rfl, ⟨hkk, hor⟩, hb⟩; rw [HNK.out] at hkk; subst hkk; obtain ⟨rb, rfl, hrou, -⟩ : ∃ rb, rp = some ⟨rb, 0, none⟩ ∧ RouAt t (k : Int) rb w5 ∧ Y.drew.heap.size ≤ rb := hor.elim (fun h => absurd rfl h.1) (fun h => h.2); have HRO := Lib.hid hrou; clear hor hrou; replace HN := Lib.hid (Bl.via hb HN.out); replace HR := Lib.hid (Bl.via hb HR.out); replace HO := Lib.hid (Bl.via hb HO.out); replace HL := Lib.hid (Bl.via hb HL.out); replace HB := Lib.hid (below_next (Bdrw HB.out) hb); have rk := HR.out.cell k HRV.out; have rf := HR.out.frz k))) | go_simp)
  (first | (with_reducible refine hK.out _ _ ?_ ?_) | (go_wp2_with fail; refine hK.out _ _ ?_ ?_))
  (focus (first | exact SBF.up hb hHeld | exact SBF.set hnr hro.symm hHeld | exact HSB.out))
  clear hK K hHeld
  intro hHeld
  (try simp only [Act.put, List.setIfInBounds_toArray, List.set_cons_zero, List.set_cons_succ])
  (refine takeL (i := 24) (v := ?_) rfl (by kernel_rfl) (by decide +kernel) (by decide +kernel) (fun _ _ _ h => h) (Or.inl ⟨by rfl, ?_⟩) (by assumption) ?_; rotate_left; (focus (intro w9 hS9; (try dsimp only at hS9); go_simp; (try with_reducible rfl); done)))
  (try simp only [Act.put, List.setIfInBounds_toArray, List.set_cons_zero, List.set_cons_succ])
  (refine takeL (i := 25) (v := ?_) rfl (by kernel_rfl) (by decide +kernel) (by decide +kernel) (fun _ _ _ h => h) (Or.inl ⟨by rfl, ?_⟩) (by assumption) ?_; rotate_left; (focus (intro w9 hS9; (try dsimp only at hS9); go_simp; (try with_reducible rfl); done)))
  (try simp only [Act.put, List.setIfInBounds_toArray, List.set_cons_zero, List.set_cons_succ])
  (refine takeL (i := 26) (v := ?_) rfl (by kernel_rfl) (by decide +kernel) (by decide +kernel) (fun _ _ _ h => h) (Or.inl ⟨by rfl, ?_⟩) (by assumption) ?_; rotate_left; (focus (intro w9 hS9; (try dsimp only at hS9); go_simp; (try with_reducible rfl); done)))
  (try simp only [Act.put, List.setIfInBounds_toArray, List.set_cons_zero, List.set_cons_succ])
  (refine takeL (i := 27) (v := ?_) rfl (by kernel_rfl) (by decide +kernel) (by decide +kernel) (fun _ _ _ h => h) (Or.inl ⟨by rfl, ?_⟩) (by assumption) ?_; rotate_left; (focus (intro w9 hS9; (try dsimp only at hS9); go_simp; (try with_reducible rfl); done)))
  (try simp only [Act.put, List.setIfInBounds_toArray, List.set_cons_zero, List.set_cons_succ])
  refine wpAnyH_ready (rs := [28]) (by decide +kernel) (by simp) ?_
  refine consL rfl (fun K hK => ?_) ?_
  ·(first | (go_at_call 6; (with_reducible refine (router_New_all e1 e2 (HT.out.below (Bdrw HB.out))).mono ?_); rintro e w5 ⟨rp, kk, rfl, ⟨hkk, hor⟩, hb⟩; rw [HNK.out] at hkk; subst hkk; obtain ⟨rb, rfl, hrou, -⟩ : ∃ rb, rp = some ⟨rb, 0, none⟩ ∧ RouAt t (k : Int) rb w5 ∧ Y.drew.heap.size ≤ rb := hor.elim (fun h => absurd rfl h.1) (fun h => h.2); have HRO := Lib.hid hrou; clear hor hrou; replace HN := Lib.hid (Bl.via hb HN.out); replace HR := Lib.hid (Bl.via hb HR.out); replace HO := Lib.hid (Bl.via hb HO.out); replace HL := Lib.hid (Bl.via hb HL.out); replace HB := Lib.hid (below_next (Bdrw HB.out) hb); have rk := HR.out.cell k HRV.out; have rf := HR.out.frz k) | (go_simp; first | done | (first | (go_at_call 6; (with_reducible refine (router_New_all e1 e2 (HT.out.below (Bdrw HB.out))).mono ?_); rintro e w5 ⟨rp, kk, rfl, ⟨hkk, hor⟩, hb⟩; rw [HNK.out] at hkk; subst hkk; obtain ⟨rb, rfl, hrou, -⟩ : ∃ rb, rp = some ⟨rb, 0, none⟩ ∧ RouAt t (k : Int) rb w5 ∧ Y.drew.heap.size ≤ rb := hor.elim (fun h => absurd rfl h.1) (fun h => h.2); have HRO := Lib.hid hrou; clear hor hrou; replace HN := Lib.hid (Bl.via hb HN.out); replace HR := Lib.hid (Bl.via hb HR.out); replace HO := Lib.hid (Bl.via hb HO.out); replace HL := Lib.hid (Bl.via hb HL.out); replace HB := Lib.hid (below_next (Bdrw HB.out) hb); have rk := HR.out.cell k HRV.out; have rf := HR.out.frz k))) | go_simp)
   (first | (with_reducible refine hK.out _ _ ?_ ?_) | (go_wp2_with fail; refine hK.out _ _ ?_ ?_))
   (focus (first | exact SBF.up hb hHeld | exact SBF.set hnr hro.symm hHeld | exact HSB.out))
   clear hK K hHeld
   intro hHeld
   (try simp only [Act.put, List.setIfInBounds_toArray, List.set_cons_zero, List.set_cons_succ])
   refine wpAnyH_done (by decide +kernel) ?_ _
   go_upto_region 2 with fail
   refine wp_named4 (fun Z => Bl 138 nb #[.int .i64 t.n, .slice C1 t.ov.length e1, .slice C2 t.ls.length e2, .int .i64 h1, .int .i64 h2, .int .i64 h3, .int .i64 g, .int .i64 s, x8, x9, x10, x11, x12, .int .i64 0, x14, .slice (some ⟨rr, 0, none⟩) N N, .slice (some ⟨bb, 0, none⟩) N N, .slice (some ⟨lr, 0, none⟩) N N, x18, x19, x20, .slice none 0 0, x22, .slice none 0 0, x24] Z ∧ Bl 30 rr (cr.setIfInBounds k (.pointer (some ⟨rb, 0, none⟩))) Z ∧ Bl 3 bb (co.setIfInBounds k (.int .i64 1)) Z ∧ Bl 228 lr cl Z ∧ Below W1.heap.size W1 Z ∧ RouAt t (k : Int) rb Z) ⟨HN.out.other hnr _, HR.out.set k _ rfl, HO.out.other hro.symm _, HL.out.other hrl.symm _, Bset HB.out HQ.out.2.1, HRO.out.setP HR.out HRP.out⟩ ?_
   rintro Z ⟨hY1, hY2, hY3, hY4, hY5, hY6⟩
   replace HN := Lib.hid hY1
   replace HR := Lib.hid hY2
   replace HO := Lib.hid hY3
   replace HL := Lib.hid hY4
   replace HB := Lib.hid hY5
   replace HRO := Lib.hid hY6
   have hrk := hY2.cell k (v := .pointer (some ⟨rb, 0, none⟩)) (by rw [Array.getElem?_setIfInBounds]; simp; omega)
   have z15 := hY1.cell 15 rfl
   have HLK := Lib.hid (net_look0 (w := Z.drew) hk HV.out HIS.out z15 hrk (hY6.up (Bdrw (Below.refl _ _))))
   have z17 : Z.cell? ⟨nb, 17, none⟩ = some (.slice (some ⟨lr, 0, none⟩) N N) := hY1.cell 17 rfl
   have HZ17 := Lib.hid z17
   clear hY1 hY2 hY3 hY4 hY5 hY6 hrk z15 z17 rk rf hHeld
   refine wp_region_held_drew (S := (fun W => W.cell? ⟨nb, 17, none⟩ = some (.slice (some ⟨lr, 0, none⟩) N N))) (by kernel_rfl) ?_ (fun hHeld => ?_)
   ·first | exact cell_up hb hHeld | exact cell_far hnl (cell_far hnl (cell_far hnl hHeld)) | exact HZ17.out
   (refine takeL (i := 0) (v := ?_) rfl (by kernel_rfl) (by decide +kernel) (by decide +kernel) (fun _ _ _ h => h) (Or.inl ⟨by rfl, ?_⟩) (by assumption) ?_; rotate_left; (focus (intro w9 hS9; (try dsimp only at hS9); go_simp; (try with_reducible rfl); done)))
   (try simp only [Act.put, List.setIfInBounds_toArray, List.set_cons_zero, List.set_cons_succ])
   (refine takeL (i := 1) (v := ?_) rfl (by kernel_rfl) (by decide +kernel) (by decide +kernel) (fun _ _ _ h => h) (Or.inl ⟨by rfl, ?_⟩) (by assumption) ?_; rotate_left; (focus (intro w9 hS9; (try dsimp only at hS9); go_simp; (try with_reducible rfl); done)))
   (try simp only [Act.put, List.setIfInBounds_toArray, List.set_cons_zero, List.set_cons_succ])
   (refine takeL (i := 2) (v := ?_) rfl (by kernel_rfl) (by decide +kernel) (by decide +kernel) (fun _ _ _ h => h) (Or.inl ⟨by rfl, ?_⟩) (by assumption) ?_; rotate_left; (focus (intro w9 hS9; (try dsimp only at hS9); go_simp; (try with_reducible rfl); done)))
   (try simp only [Act.put, List.setIfInBounds_toArray, List.set_cons_zero, List.set_cons_succ])
   (refine takeL (i := 3) (v := ?_) rfl (by kernel_rfl) (by decide +kernel) (by decide +kernel) (fun _ _ _ h => h) (Or.inl ⟨by rfl, ?_⟩) (by assumption) ?_; rotate_left; (focus (intro w9 hS9; (try dsimp only at hS9); go_simp; (try with_reducible rfl); done)))
   (try simp only [Act.put, List.setIfInBounds_toArray, List.set_cons_zero, List.set_cons_succ])
   (refine takeL (i := 4) (v := ?_) rfl (by kernel_rfl) (by decide +kernel) (by decide +kernel) (fun _ _ _ h => h) (Or.inl ⟨by rfl, ?_⟩) (by assumption) ?_; rotate_left; (focus (intro w9 hS9; (try dsimp only at hS9); go_simp; (try with_reducible rfl); done)))
   (try simp only [Act.put, List.setIfInBounds_toArray, List.set_cons_zero, List.set_cons_succ])
   (refine takeL (i := 5) (v := ?_) rfl (by kernel_rfl) (by decide +kernel) (by decide +kernel) (fun _ _ _ h => h) (Or.inl ⟨by rfl, ?_⟩) (by assumption) ?_; rotate_left; (focus (intro w9 hS9; (try dsimp only at hS9); go_simp; (try with_reducible rfl); done)))
   (try simp only [Act.put, List.setIfInBounds_toArray, List.set_cons_zero, List.set_cons_succ])
   (refine takeL (i := 6) (v := ?_) rfl (by kernel_rfl) (by decide +kernel) (by decide +kernel) (fun _ _ _ h => h) (Or.inl ⟨by rfl, ?_⟩) (by assumption) ?_; rotate_left; (focus (intro w9 hS9; (try dsimp only at hS9); go_simp; (try with_reducible rfl); done)))
   (try simp only [Act.put, List.setIfInBounds_toArray, List.set_cons_zero, List.set_cons_succ])
   refine wpAnyH_ready (rs := [7]) (by decide +kernel) (by simp) ?_
   refine consL rfl (fun K hK => ?_) ?_
   ·(first | (go_at_call 126; (with_reducible refine HLK.out.mono ?_); rintro e w6 ⟨⟨qA, qn, qc, qB, qm, qd, rfl⟩, hb⟩; replace HN := Lib.hid (Bl.via hb HN.out); replace HR := Lib.hid (Bl.via hb HR.out); replace HO := Lib.hid (Bl.via hb HO.out); replace HL := Lib.hid (Bl.via hb HL.out); replace HB := Lib.hid (below_next (Bdrw HB.out) hb); have rk := HL.out.cell (k * 3) HC0.out; have rk1 := HL.out.cell (k * 3 + 1) HC1.out; have rk2 := HL.out.cell (k * 3 + 2) HC2.out; have rf := HL.out.frz) | (go_simp; first | done | (first | (go_at_call 126; (with_reducible refine HLK.out.mono ?_); rintro e w6 ⟨⟨qA, qn, qc, qB, qm, qd, rfl⟩, hb⟩; replace HN := Lib.hid (Bl.via hb HN.out); replace HR := Lib.hid (Bl.via hb HR.out); replace HO := Lib.hid (Bl.via hb HO.out); replace HL := Lib.hid (Bl.via hb HL.out); replace HB := Lib.hid (below_next (Bdrw HB.out) hb); have rk := HL.out.cell (k * 3) HC0.out; have rk1 := HL.out.cell (k * 3 + 1) HC1.out; have rk2 := HL.out.cell (k * 3 + 2) HC2.out; have rf := HL.out.frz))) | go_simp)
    (first | (with_reducible refine hK.out _ _ ?_ ?_) | (go_wp2_with fail; refine hK.out _ _ ?_ ?_))
    (focus (first | exact cell_up hb hHeld | exact cell_far hnl (cell_far hnl (cell_far hnl hHeld)) | exact HZ17.out))
    clear hK K hHeld
    intro hHeld
    (try simp only [Act.put, List.setIfInBounds_toArray, List.set_cons_zero, List.set_cons_succ])
    (refine takeL (i := 8) (v := ?_) rfl (by kernel_rfl) (by decide +kernel) (by decide +kernel) (fun _ _ _ h => h) (Or.inl ⟨by rfl, ?_⟩) (by assumption) ?_; rotate_left; (focus (intro w9 hS9; (try dsimp only at hS9); go_simp; (try with_reducible rfl); done)))
    (try simp only [Act.put, List.setIfInBounds_toArray, List.set_cons_zero, List.set_cons_succ])
    refine wpAnyH_ready (rs := [9]) (by decide +kernel) (by simp) ?_
    refine consL rfl (fun K hK => ?_) ?_
    ·(first | (go_at_call 126; (with_reducible refine HLK.out.mono ?_); rintro e w6 ⟨⟨qA, qn, qc, qB, qm, qd, rfl⟩, hb⟩; replace HN := Lib.hid (Bl.via hb HN.out); replace HR := Lib.hid (Bl.via hb HR.out); replace HO := Lib.hid (Bl.via hb HO.out); replace HL := Lib.hid (Bl.via hb HL.out); replace HB := Lib.hid (below_next (Bdrw HB.out) hb); have rk := HL.out.cell (k * 3) HC0.out; have rk1 := HL.out.cell (k * 3 + 1) HC1.out; have rk2 := HL.out.cell (k * 3 + 2) HC2.out; have rf := HL.out.frz) | (go_simp; first | done | (first | (go_at_call 126; (with_reducible refine HLK.out.mono ?_); rintro e w6 ⟨⟨qA, qn, qc, qB, qm, qd, rfl⟩, hb⟩; replace HN := Lib.hid (Bl.via hb HN.out); replace HR := Lib.hid (Bl.via hb HR.out); replace HO := Lib.hid (Bl.via hb HO.out); replace HL := Lib.hid (Bl.via hb HL.out); replace HB := Lib.hid (below_next (Bdrw HB.out) hb); have rk := HL.out.cell (k * 3) HC0.out; have rk1 := HL.out.cell (k * 3 + 1) HC1.out; have rk2 := HL.out.cell (k * 3 + 2) HC2.out; have rf := HL.out.frz))) | go_simp)
     (first | (with_reducible refine hK.out _ _ ?_ ?_) | (go_wp2_with fail; refine hK.out _ _ ?_ ?_))
     (focus (first | exact cell_up hb hHeld | exact cell_far hnl (cell_far hnl (cell_far hnl hHeld)) | exact HZ17.out))
     clear hK K hHeld
     intro hHeld
     (try simp only [Act.put, List.setIfInBounds_toArray, List.set_cons_zero, List.set_cons_succ])
     refine wpAnyH_done (by decide +kernel) ?_ _
     go_wp2_with fail
     go_end0
     refine ⟨rfl, ((HN.out.other hnl _).other hnl _).other hnl _, ⟨_, ((HR.out.other hrl _).other hrl _).other hrl _, by simpa using HRS.out, fun j v hj => ?_⟩, ⟨_, ((HO.out.other hol _).other hol _).other hol _, by simpa using HOS.out, fun j h1 h2 => ?_⟩, ⟨_, ((HL.out.set _ _ rfl).set _ _ rfl).set _ _ rfl, by simpa using HLS.out⟩, Bset (Bset (Bset HB.out HQ.out.2.2.2) HQ.out.2.2.2) HQ.out.2.2.2, HQ.out⟩
     ·rw [Array.getElem?_setIfInBounds] at hj
      split at hj
      ·split at hj
       ·injection hj with hj; exact ⟨_, hj.symm⟩
       ·cases hj
      ·exact HRP.out j v hj
     ·rw [Array.getElem?_setIfInBounds, if_neg (by omega)]
      exact HOZ.out j (by omega) h2
    exact AllReadyH.nil
   exact AllReadyH.nil
  exact AllReadyH.nil
 exact AllReadyH.nil
end
end Go.Proofs.YtenhliibmcmnbaaGreat
namespace Go.Proofs.YtenhliibmcmnbaaGreat
set_option linter.unusedSimpArgs false
set_option linter.unusedVariables false
open Go.RowKit Go.Sort
theorem info_P : (Tryz.prog.info? 30).map (fun i => (i.zero, i.size, i.bytes)) = some (some (.pointer none), 1, 8) := by kernel_rfl
/-- make of a list of N zeros: the world behind it. -/
def mkP (n : Nat) (w : World) : World := w.alloc (.cells (madeCells (Value.cells (.pointer none)) (n * 1)) 30)
theorem run_mkP (n : Nat) (x : Int) (hx : x = (n : Int)) (h : n ≤ 1000000) (w : World) : (Instr.makeSlice 132 (.int .i64 x) (.int .i64 x)).run Tryz.prog w = .ok (.slice (some ⟨w.heap.size, 0, none⟩) n n) (mkP n w) := by
 subst hx
 obtain ⟨i0, hi, hz0, hz1, hz2⟩ := info_parts info_P
 have hr := run_make (P := Tryz.prog) w 132 30 i0 (.pointer none) Tryz.underlying132 hi hz0 .i64 .i64 (n : Int) (n : Int) (by omega) (Int.le_refl _) (by rw [hz2]; omega) (by omega)
 rw [hr, hz1, show ((n : Int)).toNat = n by omega]
 rfl
theorem info_O : (Tryz.prog.info? 228).map (fun i => (i.zero, i.size, i.bytes)) = some (some (.agg #[.slice none 0 0, .slice none 0 0, .int .i64 0]), 3, 56) := by kernel_rfl
/-- make of a list of N zeros: the world behind it. -/
def mkO (n : Nat) (w : World) : World := w.alloc (.cells (madeCells (Value.cells (.agg #[.slice none 0 0, .slice none 0 0, .int .i64 0])) (n * 3)) 228)
theorem run_mkO (n : Nat) (x : Int) (hx : x = (n : Int)) (h : n ≤ 1000000) (w : World) : (Instr.makeSlice 133 (.int .i64 x) (.int .i64 x)).run Tryz.prog w = .ok (.slice (some ⟨w.heap.size, 0, none⟩) n n) (mkO n w) := by
 subst hx
 obtain ⟨i0, hi, hz0, hz1, hz2⟩ := info_parts info_O
 have hr := run_make (P := Tryz.prog) w 133 228 i0 (.agg #[.slice none 0 0, .slice none 0 0, .int .i64 0]) Tryz.underlying133 hi hz0 .i64 .i64 (n : Int) (n : Int) (by omega) (Int.le_refl _) (by rw [hz2]; omega) (by omega)
 rw [hr, hz1, show ((n : Int)).toNat = n by omega]
 rfl
theorem info_J : (Tryz.prog.info? 3).map (fun i => (i.zero, i.size, i.bytes)) = some (some (.int .i64 0), 1, 8) := by kernel_rfl
/-- make of a list of N zeros: the world behind it. -/
def mkJ (n : Nat) (w : World) : World := w.alloc (.cells (madeCells (Value.cells (.int .i64 0)) (n * 1)) 3)
theorem run_mkJ (n : Nat) (x : Int) (hx : x = (n : Int)) (h : n ≤ 1000000) (w : World) : (Instr.makeSlice 50 (.int .i64 x) (.int .i64 x)).run Tryz.prog w = .ok (.slice (some ⟨w.heap.size, 0, none⟩) n n) (mkJ n w) := by
 subst hx
 obtain ⟨i0, hi, hz0, hz1, hz2⟩ := info_parts info_J
 have hr := run_make (P := Tryz.prog) w 50 3 i0 (.int .i64 0) Tryz.underlying50 hi hz0 .i64 .i64 (n : Int) (n : Int) (by omega) (Int.le_refl _) (by rw [hz2]; omega) (by omega)
 rw [hr, hz1, show ((n : Int)).toNat = n by omega]
 rfl
theorem madeP (n : Nat) : (madeCells (Value.pointer none).cells (n * 1)).size = n ∧ ∀ (j : Nat) (v : Value), (madeCells (Value.pointer none).cells (n * 1))[j]? = some v → ∃ p, v = .pointer p := by
 refine ⟨by rw [size_madeCells, Nat.mul_one], fun j v hj => ?_⟩
 have h : (madeCells #[Value.pointer none] (n * 1))[j]? = some v := hj
 rw [← Array.getElem?_toList] at h
 rw [toList_madeCells_one] at h
 exact ⟨none, (List.mem_replicate.1 (List.mem_of_getElem? h)).2⟩
theorem madeJ (n : Nat) : (madeCells (Value.int .i64 0).cells (n * 1)).size = n ∧ ∀ j, 0 ≤ j → j < n → (madeCells (Value.int .i64 0).cells (n * 1))[j]? = some (.int .i64 0) := by
 refine ⟨by rw [size_madeCells, Nat.mul_one], fun j _ hj => ?_⟩
 show (madeCells #[Value.int .i64 0] (n * 1))[j]? = some (.int .i64 0)
 rw [← Array.getElem?_toList, toList_madeCells_one, List.getElem?_replicate, if_pos (by omega)]
section
variable {w : World}
set_option maxHeartbeats 1000000 in
theorem net_fates (A : Option Addr) (c q : Nat) (L : List FtL) (hA : FtAt w A L) (hl : L.length ≤ 1000000) :
  Calls Tryz.prog 61 #[.slice A L.length c, .int .i64 (q : Int)] w fun e w' => (∃ (xa : Option Addr) (xc : Nat) (fs : List (Int × Int)), e = .returned (.slice xa fs.length xc) ∧ Rd w' xa (fs.flatMap fateV) ∧ fs.length ≤ 1000000) ∧ w = w' := by
 by_cases h : q < L.length
 ·obtain ⟨y, hy⟩ : ∃ y, L[q]? = some y := ⟨_, List.getElem?_eq_getElem h⟩
  obtain ⟨bz, oz, rfl, cf⟩ := hA.at_ hy
  obtain ⟨xa, xc, fs⟩ := y
  have cf' : w.cell? ⟨bz, oz + q, none⟩ = some (.slice xa fs.length xc) := cf
  have HE := Lib.hid (hA.each _ (List.mem_of_getElem? hy))
  have hlt : (q : Int) < (L.length : Int) := by omega
  clear cf hy hA
  go_enter Tryz.func61, Tryz.ntmps61
  go_wp2_with fail
  go_ret
  exact ⟨⟨xa, xc, fs, rfl, HE.out.1, HE.out.2⟩, rfl⟩
 ·have hlt : ¬ (q : Int) < (L.length : Int) := by omega
  clear hA
  go_enter Tryz.func61, Tryz.ntmps61
  go_wp2_with fail
  go_ret
  exact ⟨⟨none, 0, [], rfl, .inl rfl, by simp⟩, rfl⟩
end
theorem own_grown {w w' : World} {B : Nat} {E : TypeId} {size : Nat} {v : Value} {n : Nat} {xs : List Value} {o : Option Nat} (h : w.ownsRow B E size v n xs) (hg : w.grownBy w' o) (ne : ∀ g, v.ownBlock = some g → o ≠ some g) : w'.ownsRow B E size v n xs := by
 rcases h with ⟨hl, h0 | ⟨g, cap, cur, rfl, hB, hgb, rest⟩⟩
 ·exact ⟨hl, .inl h0⟩
 ·exact ⟨hl, .inr ⟨g, cap, cur, rfl, hB, (hg.block g (lt_blk hgb) (fun e => ne g rfl e.symm)).trans hgb, rest⟩⟩
theorem own_blkX {w : World} {B : Nat} {E : TypeId} {size : Nat} {v : Value} {n : Nat} {xs : List Value} (h : w.ownsRow B E size v n xs) {g : Nat} (e : v.ownBlock = some g) : ∃ cur, w.heap[g]? = some (.cells cur E (0, 0)) := by
 rcases h with ⟨hl, ⟨rfl, _⟩ | ⟨g', cap, cur, rfl, hB, hgb, rest⟩⟩
 ·cases e
 ·injection e with e
  have e' : g' = g := e
  subst e'
  exact ⟨cur, hgb⟩
theorem own_neT {w : World} {B : Nat} {E T : TypeId} {size : Nat} {v : Value} {n b : Nat} {xs : List Value} {cs : Array Value} (h : w.ownsRow B E size v n xs) (hb : Bl T b cs w) (hT : T ≠ E) : v.ownBlock ≠ some b := fun e => by
 obtain ⟨cur, hc⟩ := own_blkX h e
 exact (Bl.neT hb (show Bl E b cur w from hc) hT) rfl
theorem own_neR {w : World} {B B' : Nat} {E E' : TypeId} {size size' : Nat} {v v' : Value} {n n' : Nat} {xs xs' : List Value} (h : w.ownsRow B E size v n xs) (h' : w.ownsRow B' E' size' v' n' xs') (hE : E ≠ E') : ∀ g, v.ownBlock = some g → v'.ownBlock ≠ some g := fun g e e' => by
 obtain ⟨cur, hc⟩ := own_blkX h e
 obtain ⟨cur', hc'⟩ := own_blkX h' e'
 exact (Bl.neT (show Bl E g cur w from hc) (show Bl E' g cur' w from hc') hE) rfl
theorem Bl.grownX {T : TypeId} {b : Nat} {cs : Array Value} {w w' : World} {o : Option Nat} (h : Bl T b cs w) (hg : w.grownBy w' o) (ne : o ≠ some b) : Bl T b cs w' := (hg.block b h.lt (fun e => ne e.symm)).trans h
theorem own_mono {w : World} {B B' : Nat} {E : TypeId} {size : Nat} {v : Value} {n : Nat} {xs : List Value} (h : w.ownsRow B E size v n xs) (hB : B' ≤ B) : w.ownsRow B' E size v n xs := by
 rcases h with ⟨hl, h0 | ⟨g, cap, cur, hv, hb, rest⟩⟩
 ·exact ⟨hl, .inl h0⟩
 ·exact ⟨hl, .inr ⟨g, cap, cur, hv, Nat.le_trans hB hb, rest⟩⟩
theorem wpList_append_lies {P : Program} (w : World) {ops : Array Oper} {rest : List Oper} {o : Oper} {a : Act} {Q : Exit → Act → World → Prop} (hgd : o.guard = none) (s x : Operand) (t : TypeId)
  (ho : o.op = .call { callee := .builtin .append, args := #[s, x], argTypes := #[t, t] })
  (base : Nat) (e : TypeId) (i : TypeInfo) (z : Value) (size bytes : Nat) (ht : P.underlying t = some (.slice e)) (hi : P.info? e = some i) (hz : i.zero = some z)
  (hsize : i.size = size) (hby : i.bytes = bytes) (hzs : z.cells.size = size) (hsz : 0 < size)
  (v : Value) (n : Nat) (xs : List Value) (hs : a.eval s = v) (hown : w.ownsRow base e size v n xs)
  (ad : Addr) (m c : Nat) (news : List Value) (hx : a.eval x = .slice (some ad) m c) (hl : news.length = m * size) (hnews : ∀ j u, news[j]? = some u → w.cell? (ad.add j) = some u) (h1 : ∀ u ∈ news, u.oneCell' = true)
  (hm : 0 < m) (h63 : n + m ≤ maxLen) (hbytes : (n + m) * bytes ≤ 140737488355328) (hbase : base ≤ w.heap.size) (H : Nat) (hH : w.heap.size = H)
  (h : ∀ g cap w', w'.ownsRow base e size (.slice (some ⟨g, 0, none⟩) (n + m) cap) (n + m) (xs ++ news) → w.grownBy w' v.ownBlock → (v.ownBlock = some g ∨ g = H) → g < w'.heap.size → wpList P ops Q rest (a.put o.dst (.slice (some ⟨g, 0, none⟩) (n + m) cap)) w') : wpList P ops Q (o :: rest) a w :=
 wpList_plain hgd fun _ hK => wp_append_lies w s x t ho base e i z size bytes ht hi hz hsize hby hzs hsz v n xs hs hown ad m c news hx hl hnews h1 hm h63 hbytes hbase H hH fun g cap w' h1 h2 h3 h4 => hK _ _ (h g cap w' h1 h2 h3 h4)
end Go.Proofs.YtenhliibmcmnbaaGreat
namespace Go.Proofs.YtenhliibmcmnbaaGreat
set_option linter.unusedSimpArgs false
set_option linter.unusedVariables false
open Go.RowKit Go.Sort
def fewB (u : SuN) : Bool := decide (u.t.n ≤ 70) && decide (u.t.ov.length ≤ 70) && decide (u.t.ls.length ≤ 300) && decide (u.acs.length ≤ 40) && decide (u.ctl.length ≤ 600) && decide (u.dat.length ≤ 600) && (u.ctl.all fun x => decide (x.2.2.length ≤ 20)) && (u.dat.all fun x => decide (x.2.2.length ≤ 20)) && (u.acs.all fun a => decide (a.sn ≤ 40))
theorem all_no {α : Type} {l : List α} {p : α → Bool} {k : Nat} {x : α} (h : l[k]? = some x) (hp : p x = false) : l.all p = false := by
 cases hc : l.all p with
 | false => rfl
 | true =>
  have := List.all_eq_true.1 hc x (List.mem_of_getElem? h)
  rw [hp] at this
  cases this
theorem all_yes {α : Type} {l : List α} {p : α → Bool} (h : ∀ j x, j < l.length → l[j]? = some x → p x = true) : l.all p = true :=
 List.all_eq_true.2 fun y hy => by
  obtain ⟨j, hj, rfl⟩ := List.getElem_of_mem hy
  exact h j _ hj (List.getElem?_eq_getElem hj)
section
variable {w : World}
set_option maxRecDepth 100000 in
set_option maxHeartbeats 4000000 in
theorem law_few (u : SuN) (A1 A2 C D S : Option Addr) (k1 k2 k3 k4 k5 : Nat) (hC : Rd w C (u.ctl.map ftV)) (hD : Rd w D (u.dat.map ftV)) (hS : Rd w S (u.acs.flatMap acV)) :
  Calls Tryz.prog 20 #[.agg (suC u A1 A2 C D S k1 k2 k3 k4 k5)] w fun e w' => e = .returned (.bool (fewB u)) ∧ Below w.heap.size w w' := by
 have HC := Lib.hid hC
 have HD := Lib.hid hD
 have HS := Lib.hid hS
 clear hC hD hS
 obtain ⟨R, hR⟩ : ∃ R, R = fewB u := ⟨_, rfl⟩
 rw [← hR]
 have HR := Lib.hid hR
 clear hR
 obtain ⟨t, h1, h2, h3, g, s, det, room, ctl, dat, acs⟩ := u
 unfold suC
 have HX := Lib.hid (Bl.new w #[.int .i64 t.n, .slice A1 t.ov.length k1, .slice A2 t.ls.length k2, .int .i64 h1, .int .i64 h2, .int .i64 h3, .int .i64 g, .int .i64 s, .int .i64 det, .int .i64 room, .slice C ctl.length k3, .slice D dat.length k4, .slice S acs.length k5] 61)
 have HB := Lib.hid (below_box w (.cells #[.int .i64 t.n, .slice A1 t.ov.length k1, .slice A2 t.ls.length k2, .int .i64 h1, .int .i64 h2, .int .i64 h3, .int .i64 g, .int .i64 s, .int .i64 det, .int .i64 room, .slice C ctl.length k3, .slice D dat.length k4, .slice S acs.length k5] 61))
 obtain ⟨b0, b1, b2, b3, b4, b5, b6, b7, b8, b9, b10, b11, b12, fb⟩ := HX.out.c13
 go_enter Tryz.func20, Tryz.ntmps20
 by_cases q0 : 70 < t.n
 ·skip
  have hbad : R = false := by
   have hn : ¬ t.n ≤ 70 := by omega
   rw [HR.out]; simp [fewB, hn]
  go_wp2_with fail
  exact bodyPost_ret (v := .bool false) (by simp [results, Tryz.results20, go_sem]) rfl ⟨by first | rfl | rw [hbad], HB.out⟩
 by_cases q1 : (70 : Int) < (t.ov.length : Int)
 ·skip
  have hbad : R = false := by
   have hn : ¬ t.ov.length ≤ 70 := by omega
   rw [HR.out]; simp [fewB, hn]
  go_wp2_with fail
  exact bodyPost_ret (v := .bool false) (by simp [results, Tryz.results20, go_sem]) rfl ⟨by first | rfl | rw [hbad], HB.out⟩
 by_cases q2 : (300 : Int) < (t.ls.length : Int)
 ·skip
  have hbad : R = false := by
   have hn : ¬ t.ls.length ≤ 300 := by omega
   rw [HR.out]; simp [fewB, hn]
  go_wp2_with fail
  exact bodyPost_ret (v := .bool false) (by simp [results, Tryz.results20, go_sem]) rfl ⟨by first | rfl | rw [hbad], HB.out⟩
 by_cases q3 : (40 : Int) < (acs.length : Int)
 ·skip
  have hbad : R = false := by
   have hn : ¬ acs.length ≤ 40 := by omega
   rw [HR.out]; simp [fewB, hn]
  go_wp2_with fail
  exact bodyPost_ret (v := .bool false) (by simp [results, Tryz.results20, go_sem]) rfl ⟨by first | rfl | rw [hbad], HB.out⟩
 by_cases q4 : (600 : Int) < (ctl.length : Int)
 ·skip
  have hbad : R = false := by
   have hn : ¬ ctl.length ≤ 600 := by omega
   rw [HR.out]; simp [fewB, hn]
  go_wp2_with fail
  exact bodyPost_ret (v := .bool false) (by simp [results, Tryz.results20, go_sem]) rfl ⟨by first | rfl | rw [hbad], HB.out⟩
 by_cases q5 : (600 : Int) < (dat.length : Int)
 ·skip
  have hbad : R = false := by
   have hn : ¬ dat.length ≤ 600 := by omega
   rw [HR.out]; simp [fewB, hn]
  go_wp2_with fail
  exact bodyPost_ret (v := .bool false) (by simp [results, Tryz.results20, go_sem]) rfl ⟨by first | rfl | rw [hbad], HB.out⟩
 go_wp2_with fail
 refine wp_named4 (fun W => Bl 61 w.heap.size #[.int .i64 t.n, .slice A1 t.ov.length k1, .slice A2 t.ls.length k2, .int .i64 h1, .int .i64 h2, .int .i64 h3, .int .i64 g, .int .i64 s, .int .i64 det, .int .i64 room, .slice C ctl.length k3, .slice D dat.length k4, .slice S acs.length k5] W ∧ Below w.heap.size w W) ⟨HX.out, HB.out⟩ ?_
 rintro W1 ⟨hY1, hY2⟩
 replace HX := Lib.hid hY1
 replace HB := Lib.hid hY2
 clear b0 b1 b2 b3 b4 b5 b6 b7 b8 b9 b10 b11 b12 fb
 obtain ⟨b0, b1, b2, b3, b4, b5, b6, b7, b8, b9, b10, b11, b12, fb⟩ := hY1.c13
 clear hY1 hY2
 go_loopg [3] ctl.length (fun gg i wx => ∃ q : Nat, q + gg = ctl.length ∧ i = .int .i64 q ∧ Hid (∀ j x, j < q → ctl[j]? = some x → (fun x : FtL => decide (x.2.2.length ≤ 20)) x = true) ∧ wx = W1)
 case atStart => exact ⟨0, by omega, rfl, Lib.hid (fun j x hj => absurd hj (by omega)), rfl⟩
 case round =>
  obtain ⟨q, hq, rfl, HOK, hw⟩ := hrel
  subst wr
  by_cases hlt : q < ctl.length
  ·have hlt' : (q : Int) < (ctl.length : Int) := by omega
   obtain ⟨x, hx⟩ : ∃ x, ctl[q]? = some x := ⟨_, List.getElem?_eq_getElem hlt⟩
   have HXx := Lib.hid hx
   obtain ⟨bz, oz, e0, cf⟩ := Rd.at_ (HC.out.below HB.out) (k := q) (u := ftV x) (by rw [List.getElem?_map, hx]; rfl)
   subst e0
   obtain ⟨xa, xc, fs⟩ := x
   have cf' : W1.cell? ⟨bz, oz + q, none⟩ = some (.slice xa fs.length xc) := cf
   clear cf hx
   by_cases hb : (20 : Int) < (fs.length : Int)
   ·have hbad : R = false := by rw [HR.out]; simp [fewB, all_no (p := (fun x : FtL => decide (x.2.2.length ≤ 20))) HXx.out (by simp; omega)]
    go_wp2_with fail
    exact bodyPost_ret (v := .bool false) (by simp [results, Tryz.results20, go_sem]) rfl ⟨by first | rfl | rw [hbad], HB.out⟩
   ·have hy : (fun x : FtL => decide (x.2.2.length ≤ 20)) (xa, xc, fs) = true := by simp; omega
    go_wp2_with fail
    go_roundg (gk - 1)
    case measure => omega
    case rel =>
     refine ⟨q + 1, by omega, by go_num, Lib.hid (fun j y hj hy2 => ?_), rfl⟩
     by_cases hjq : j = q
     ·subst hjq
      rw [HXx.out] at hy2
      injection hy2 with hy2
      rw [← hy2]
      exact hy
     ·exact HOK.out j y (by omega) hy2
  ·obtain rfl : q = ctl.length := by omega
   have HF1 : Hid (ctl.all (fun x : FtL => decide (x.2.2.length ≤ 20)) = true) := Lib.hid (all_yes HOK.out)
   clear HOK hlt hq
   have hlf : ¬ ((ctl.length : Int) < (ctl.length : Int)) := by omega
   go_wp2_with fail
   go_loopg [4] dat.length (fun gg i wx => ∃ q : Nat, q + gg = dat.length ∧ i = .int .i64 q ∧ Hid (∀ j x, j < q → dat[j]? = some x → (fun x : FtL => decide (x.2.2.length ≤ 20)) x = true) ∧ wx = W1)
   case atStart => exact ⟨0, by omega, rfl, Lib.hid (fun j x hj => absurd hj (by omega)), rfl⟩
   case round =>
    obtain ⟨q, hq, rfl, HOK, hw⟩ := hrel
    subst wr
    by_cases hlt : q < dat.length
    ·have hlt' : (q : Int) < (dat.length : Int) := by omega
     obtain ⟨x, hx⟩ : ∃ x, dat[q]? = some x := ⟨_, List.getElem?_eq_getElem hlt⟩
     have HXx := Lib.hid hx
     obtain ⟨bz, oz, e0, cf⟩ := Rd.at_ (HD.out.below HB.out) (k := q) (u := ftV x) (by rw [List.getElem?_map, hx]; rfl)
     subst e0
     obtain ⟨xa, xc, fs⟩ := x
     have cf' : W1.cell? ⟨bz, oz + q, none⟩ = some (.slice xa fs.length xc) := cf
     clear cf hx
     by_cases hb : (20 : Int) < (fs.length : Int)
     ·have hbad : R = false := by rw [HR.out]; simp [fewB, all_no (p := (fun x : FtL => decide (x.2.2.length ≤ 20))) HXx.out (by simp; omega)]
      go_wp2_with fail
      exact bodyPost_ret (v := .bool false) (by simp [results, Tryz.results20, go_sem]) rfl ⟨by first | rfl | rw [hbad], HB.out⟩
     ·have hy : (fun x : FtL => decide (x.2.2.length ≤ 20)) (xa, xc, fs) = true := by simp; omega
      go_wp2_with fail
      go_roundg (gk - 1)
      case measure => omega
      case rel =>
       refine ⟨q + 1, by omega, by go_num, Lib.hid (fun j y hj hy2 => ?_), rfl⟩
       by_cases hjq : j = q
       ·subst hjq
        rw [HXx.out] at hy2
        injection hy2 with hy2
        rw [← hy2]
        exact hy
       ·exact HOK.out j y (by omega) hy2
    ·obtain rfl : q = dat.length := by omega
     have HF2 : Hid (dat.all (fun x : FtL => decide (x.2.2.length ≤ 20)) = true) := Lib.hid (all_yes HOK.out)
     clear HOK hlt hq
     have hlf : ¬ ((dat.length : Int) < (dat.length : Int)) := by omega
     go_wp2_with fail
     go_loopg [5] acs.length (fun gg i wx => ∃ q : Nat, q + gg = acs.length ∧ i = .int .i64 q ∧ Hid (∀ j x, j < q → acs[j]? = some x → (fun a : AcN => decide (a.sn ≤ 40)) x = true) ∧ wx = W1)
     case atStart => exact ⟨0, by omega, rfl, Lib.hid (fun j x hj => absurd hj (by omega)), rfl⟩
     case round =>
      obtain ⟨q, hq, rfl, HOK, hw⟩ := hrel
      subst wr
      by_cases hlt : q < acs.length
      ·have hlt' : (q : Int) < (acs.length : Int) := by omega
       obtain ⟨x, hx⟩ : ∃ x, acs[q]? = some x := ⟨_, List.getElem?_eq_getElem hlt⟩
       have HXx := Lib.hid hx
       obtain ⟨bz, oz, e0, hcs⟩ := act_at (HS.out.below HB.out) hx
       subst e0
       obtain ⟨a0, a1, a2, a3, a4, a5, a6, a7, a8, a9, a10, a11, a12, a13⟩ := ac_cells hcs
       clear hcs hx
       by_cases hb : (40 : Int) < (x.sn : Int)
       ·have hbad : R = false := by rw [HR.out]; simp [fewB, all_no (p := (fun a : AcN => decide (a.sn ≤ 40))) HXx.out (by simp; omega)]
        go_wp2_with fail
        exact bodyPost_ret (v := .bool false) (by simp [results, Tryz.results20, go_sem]) rfl ⟨by first | rfl | rw [hbad], HB.out⟩
       ·have hy : (fun a : AcN => decide (a.sn ≤ 40)) x = true := by simp; omega
        go_wp2_with fail
        go_roundg (gk - 1)
        case measure => omega
        case rel =>
         refine ⟨q + 1, by omega, by go_num, Lib.hid (fun j y hj hy2 => ?_), rfl⟩
         by_cases hjq : j = q
         ·subst hjq
          rw [HXx.out] at hy2
          injection hy2 with hy2
          rw [← hy2]
          exact hy
         ·exact HOK.out j y (by omega) hy2
      ·obtain rfl : q = acs.length := by omega
       have HF3 : Hid (acs.all (fun a : AcN => decide (a.sn ≤ 40)) = true) := Lib.hid (all_yes HOK.out)
       clear HOK hlt hq
       have hlf : ¬ ((acs.length : Int) < (acs.length : Int)) := by omega
       have hbad : R = true := by
        have e1 : t.ov.length ≤ 70 := by omega
        have e2 : t.ls.length ≤ 300 := by omega
        have e3 : acs.length ≤ 40 := by omega
        have e4 : ctl.length ≤ 600 := by omega
        have e5 : dat.length ≤ 600 := by omega
        have e6 : t.n ≤ 70 := by omega
        rw [HR.out]
        unfold fewB
        simp only [HF1.out, HF2.out, HF3.out, e1, e2, e3, e4, e5, e6, decide_true, Bool.and_self]
       go_wp2_with fail
       exact bodyPost_ret (v := .bool true) (by simp [results, Tryz.results20, go_sem]) rfl ⟨by first | rfl | rw [hbad], HB.out⟩
end
end Go.Proofs.YtenhliibmcmnbaaGreat
