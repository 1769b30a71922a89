/-
  A fresh router: Table (printed by gen_rtw.py).
-/
import Derived.Test.YtenhliibmcmnbaaGreatRtV
import Derived.Test.YtenhliibmcmnbaaGreatClone
namespace Go.Proofs.YtenhliibmcmnbaaGreat
set_option linter.unusedSimpArgs false
set_option linter.unusedVariables false
open Go.RowKit Go.Sort

theorem set_same {α : Type} : ∀ (l : List α) (i : Nat) (x : α), l[i]? = some x → l.set i x = l
  | [], i, x, h => by simp at h
  | y :: l, 0, x, h => by simp at h; subst h; rfl
  | y :: l, i + 1, x, h => by simp only [List.set_cons_succ]; rw [set_same l i x (by simpa using h)]
section
variable {t : Topo} {v : Int} {rb sb : Nat} {C1 C2 B1 B2 D : Option Addr} {e1 e2 d1 d2 : Nat} {g s : Int} {w : World}
/-- A store of what lies there already. -/
theorem own_same {B gb n c : Nat} {E : TypeId} {xs : List Value} {k : Nat} {u : Value} {W : World} (h : W.ownsRow B E 3 (.slice (some ⟨gb, 0, none⟩) n c) n xs) (hk : xs[k]? = some u) : (W.setCell ⟨gb, k, none⟩ u).ownsRow B E 3 (.slice (some ⟨gb, 0, none⟩) n c) n xs := by
  have h1 := (h.stored k u).1
  rw [set_same xs k u hk] at h1
  simpa using h1
theorem own_cell3 {B gb n c k : Nat} {E : TypeId} {xs : List Value} {u : Value} {W : World} (h : W.ownsRow B E 3 (.slice (some ⟨gb, 0, none⟩) n c) n xs) (hk : xs[k]? = some u) : W.cell? ⟨gb, k, none⟩ = some u ∧ W.frozen? ⟨gb, k, none⟩ = false := by
  refine ⟨?_, h.frozenAt k⟩
  rw [h.cellAt k (by have := h.1; have := (List.getElem?_eq_some_iff.1 hk).1; omega)]
  exact hk
theorem own_at3 {w : World} {base n : Nat} {E : TypeId} {v : Value} {xs : List Value} (ho : w.ownsRow base E 3 v n xs) (hn : 0 < n) : ∃ g c, v = .slice (some ⟨g, 0, none⟩) n c ∧ n ≤ c ∧ base ≤ g := by
  rcases ho with ⟨hl, ⟨rfl, h1⟩ | ⟨g, cap, cur, rfl, hb, hg, hnc, hcm, hs, ht⟩⟩
  · omega
  · exact ⟨g, cap, rfl, hnc, hb⟩
theorem two_up {b c i j : Nat} {x y : Value} {w w' : World} (hb : Below w.heap.size w w') (h : w.cell? ⟨b, i, none⟩ = some x ∧ w.cell? ⟨c, j, none⟩ = some y) : w'.cell? ⟨b, i, none⟩ = some x ∧ w'.cell? ⟨c, j, none⟩ = some y := ⟨cell_up hb h.1, cell_up hb h.2⟩
theorem two_set {b c i j : Nat} {x y : Value} {w : World} (hne : c ≠ b) (h : w.cell? ⟨b, i, none⟩ = some x ∧ w.cell? ⟨c, j, none⟩ = some y) : (w.setCell ⟨c, j, none⟩ y).cell? ⟨b, i, none⟩ = some x ∧ (w.setCell ⟨c, j, none⟩ y).cell? ⟨c, j, none⟩ = some y := by
  refine ⟨(World.cell?_setCell_other w _ _ _ (fun e => hne (by injection e))).trans h.1, ?_⟩
  exact World.cell?_setCell_same' w _ _ (by rw [h.2]; rfl)
set_option maxRecDepth 100000 in
set_option maxHeartbeats 8000000 in
theorem router_Table0 (hv : valid t = true) (hn : isN t.n v = true) (h : RouR t v rb sb C1 C2 B1 B2 D e1 e2 d1 d2 g s w) :
    Calls Tryz.prog 15 #[.pointer (some ⟨rb, 0, none⟩)] w fun e w' => (∃ x y, e = .returned (.agg #[.int .i64 v, x, y])) ∧ Kp [rb] w w' := by
  have HV := Lib.hid hv
  have HN := Lib.hid hn
  have HNN := Lib.hid (valid_n hv)
  have H0 := Lib.hid h
  have HR := Lib.hid (h.up (below_box w (.cells #[.int .i64 0, .slice none 0 0, .slice none 0 0] 52)))
  have HY := Lib.hid (Bl.new w #[.int .i64 0, .slice none 0 0, .slice none 0 0] 52)
  have HLT := Lib.hid h.r.lt
  clear h hv hn
  go_enter Tryz.func15, Tryz.ntmps15
  go_upto_region 4 with (go_at_call 40; (with_reducible refine (router_current0 HV.out HN.out HR.out).mono ?_); rintro e w3 ⟨Av, Aw, cv, cw, xs, rfl, ho, hd, hxl, hk⟩; have HO := Lib.hid ho; have HD := Lib.hid hd; have HXL := Lib.hid hxl; have HK := Lib.hid hk; clear ho hd hxl hk)
  obtain ⟨N, hN⟩ : ∃ N, N = t.n.toNat := ⟨_, rfl⟩
  have HNE := Lib.hid hN
  rw [← hN] at HO ⊢
  clear hN
  have HS3 := Lib.hid HK.out.size
  refine wp_named3 (fun Y => (∃ p, p = w3.heap.size ∧ Bl 52 p #[.int .i64 v, .slice Av N cv, .slice Aw xs.length cw] Y) ∧ Bl 52 w.heap.size #[.int .i64 0, .slice none 0 0, .slice none 0 0] Y ∧ (∃ B, Y.ownsRow B 115 3 (.slice Av N cv) N (ents N)) ∧ (∀ b, (Value.slice Av N cv).ownBlock = some b → b < w3.heap.size) ∧ (∃ B, Y.ownsRow B 3 1 (.slice Aw xs.length cw) xs.length (xs.map (Value.int .i64))) ∧ w.heap.size < w3.heap.size ∧ Kp [rb] w Y) ⟨⟨_, rfl, Bl.new w3 _ _⟩, (HY.out.kp HK.out (by have := HLT.out; simp; omega)).up (below_box _ _), ⟨_, own_up HO.out (below_box _ _)⟩, fun b e => (HO.out.lt b e).2, ⟨_, own_up HD.out (below_box _ _)⟩, by have := HS3.out; simp at this; omega, ((Kp.of (below_box w _)).trans HK.out).alloc _⟩ ?_
  rintro Y ⟨⟨p, hp, hY1⟩, hY2, ⟨Ba, hY3⟩, hY6, ⟨Bb, hY4⟩, hY5, hY7⟩
  rw [← hp] at hY5 hY6 ⊢
  clear hp HO HD HK HS3 HR HY
  have HX := Lib.hid hY1
  have HY := Lib.hid hY2
  have HO := Lib.hid hY3
  have HD := Lib.hid hY4
  have HWP := Lib.hid hY5
  have HKW := Lib.hid hY7
  have HOP : Hid ((Value.slice Av N cv).ownBlock ≠ some p) := Lib.hid (fun e => by have := hY6 _ e; omega)
  obtain ⟨x0, x1, x2, fx⟩ := hY1.c3
  clear hY1 hY2 hY3 hY4 hY5 hY6 hY7
  have hone : ∀ u ∈ xs.map (Value.int .i64), u.oneCell' = true := fun u hu => by
    obtain ⟨a, _, rfl⟩ := List.mem_map.1 hu
    rfl
  have HON := Lib.hid hone
  clear hone x0 x1
  have HCD := Lib.hid (fun W (hW : Below Y.heap.size Y W) => clone_int Aw xs.length cw (xs.map (Value.int .i64)) W (by obtain ⟨_, _, e1, _, _, hr⟩ := rd_of_own HD.out; injection e1 with e1 _ _; subst e1; exact hr.below hW) (by simp) HON.out (by have := HXL.out; omega))
  have HCE := Lib.hid (fun W (ho : W.ownsRow Ba 115 3 (.slice Av N cv) N (ents N)) => clone_Entry Av N cv (ents N) W (by obtain ⟨_, _, e1, _, _, hr⟩ := rd_of_ownK ho; injection e1 with e1 _ _; subst e1; exact hr) (ents_len N) (ents_one N) (by have := HNE.out; have := HNN.out; omega))
  go_upto_region 5 with (go_at_call 51; (with_reducible refine (HCD.out _ (Below.refl _ _)).mono ?_); rintro e w5 ⟨vd, rfl, hd, hb⟩; obtain ⟨Ad, cd, rfl, _, _, _⟩ := rd_of_own hd; have HX5 := Lib.hid (HX.out.up hb); have HY5 := Lib.hid (HY.out.up hb); have HB5 := Lib.hid hb; have HP5 := Lib.hid HX.out.lt; clear hd hb x2 fx; obtain ⟨x0, x1, x2, fx⟩ := HX5.out.c3)
  have HOW := Lib.hid (own_setCell (j := 2) (own_up HO.out HB5.out) HOP.out (.slice Ad xs.length cd))
  have HXW := Lib.hid (HX5.out.set 2 (.slice Ad xs.length cd) rfl)
  have HYW := Lib.hid (HY5.out.other (show w.heap.size ≠ p by have := HWP.out; omega) (c := p) (j := 2) (.slice Ad xs.length cd))
  replace HKW := Lib.hid ((HKW.out.next HB5.out).set (j := 2) (.inr (show w.heap.size ≤ p by have := HWP.out; omega)) (.slice Ad xs.length cd))
  generalize w5.setCell ⟨p, 2, none⟩ (.slice Ad xs.length cd) = W6 at HOW HXW HYW HKW ⊢
  clear x0 x1 x2 fx HX5 HY5 HB5 HX HY HO HD HCD
  obtain ⟨x0, x1, x2, fx⟩ := HXW.out.c3
  have HPL := Lib.hid HXW.out.lt
  go_upto_region 6 with (go_at_call 52; (with_reducible refine (HCE.out _ HOW.out).mono ?_); rintro e w7 ⟨ve, rfl, he, hb⟩; have HE := Lib.hid he; obtain ⟨Ae, ce, rfl, _, _, _⟩ := rd_of_ownK he; replace HXW := Lib.hid (HXW.out.up hb); replace HYW := Lib.hid (HYW.out.up hb); replace HKW := Lib.hid (HKW.out.next hb); clear he hb x0 x1 x2 fx; obtain ⟨x0, x1, x2, fx⟩ := HXW.out.c3)
  refine wp_named3 (fun Z => Bl 52 p #[.int .i64 v, .slice Ae N ce, .slice Ad xs.length cd] Z ∧ Bl 52 w.heap.size #[.int .i64 0, .slice none 0 0, .slice none 0 0] Z ∧ Z.ownsRow (p + 1) 115 3 (.slice Ae N ce) N (ents N) ∧ Kp [rb] w Z) ⟨HXW.out.set 1 _ rfl, HYW.out.other (show w.heap.size ≠ p by have := HWP.out; omega) _, own_setCell (own_base HE.out HPL.out) (fun e => by have := (HE.out.lt _ e).1; have := HPL.out; omega) _, HKW.out.set (.inr (show w.heap.size ≤ p by have := HWP.out; omega)) _⟩ ?_
  rintro Z ⟨hZ1, hZ2, hZ3, hZ4⟩
  clear x0 x1 x2 fx HXW HYW HOW HE HPL HCE HKW
  have HX := Lib.hid hZ1
  have HY := Lib.hid hZ2
  have HE := Lib.hid hZ3
  have HKW := Lib.hid hZ4
  obtain ⟨x0, x1, x2, fx⟩ := hZ1.c3
  clear hZ1 hZ2 hZ3 hZ4
  go_wp2_with fail
  clear x0 x1 x2 fx
  go_loopg [21] N (fun gg i wx => ∃ q : Nat, q + gg = N ∧ i = .int .i64 q ∧ Hid (Bl 52 p #[.int .i64 v, .slice Ae N ce, .slice Ad xs.length cd] wx) ∧ Hid (Bl 52 w.heap.size #[.int .i64 0, .slice none 0 0, .slice none 0 0] wx) ∧ Hid (wx.ownsRow (p + 1) 115 3 (.slice Ae N ce) N (ents N)) ∧ Hid (Kp [rb] w wx))
  case atStart => exact ⟨0, by omega, rfl, HX, HY, HE, HKW⟩
  case round =>
    clear HX HY HE HKW
    obtain ⟨q, hq, rfl, HX, HY, HE, HKW⟩ := hrel
    by_cases hlt : q < N
    · have hlt' : (q : Int) < (N : Int) := by omega
      have hN64 : N ≤ 64 := by have := HNE.out; have := HNN.out; omega
      obtain ⟨gb, cg, e1, _, hgb⟩ := own_at3 HE.out (by omega)
      injection e1 with e1 _ e3
      subst e1 e3
      have hgp : gb ≠ p := by omega
      have hgw : gb ≠ w.heap.size := by have := HWP.out; omega
      have HGK : Hid (w.heap.size ≤ gb) := Lib.hid (by have := HWP.out; omega)
      go_upto_region 9 with fail
      generalize wr = WW at HX HY HE HKW ⊢
      obtain ⟨X, hX⟩ : ∃ X, X = WW.drew := ⟨_, rfl⟩
      have HX1 := Lib.hid (hX ▸ HX.out.up (Bdrw (Below.refl _ _)) : Bl 52 p #[.int .i64 v, .slice (some ⟨gb, 0, none⟩) N ce, .slice Ad xs.length cd] X)
      have HY1 := Lib.hid (hX ▸ HY.out.up (Bdrw (Below.refl _ _)) : Bl 52 w.heap.size #[.int .i64 0, .slice none 0 0, .slice none 0 0] X)
      have HE1 := Lib.hid (hX ▸ own_up HE.out (Bdrw (Below.refl _ _)) : X.ownsRow (p + 1) 115 3 (.slice (some ⟨gb, 0, none⟩) N ce) N (ents N))
      have HEA : Hid ((ents N)[q * 3]? = some (.slice none 0 0)) := Lib.hid (by have := ents_at N q 0 hlt (by decide); exact this)
      obtain ⟨ce0, ce1⟩ := own_cell3 HE1.out HEA.out
      have hx1 := HX1.out.cell 1 rfl
      have HK1 := Lib.hid (hX ▸ HKW.out.drew : Kp [rb] w X)
      clear HX HY HE HKW
      refine wp_region_held_drew (S := (fun w' => w'.cell? ⟨p, 1, none⟩ = some (.slice (some ⟨gb, 0, none⟩) N ce) ∧ w'.cell? ⟨gb, q * 3, none⟩ = some (.slice none 0 0))) (by kernel_rfl) ?_ (fun hHeld => ?_)
      · exact hX ▸ ⟨hx1, ce0⟩
      rw [← hX] at hHeld ⊢
      clear hX hx1 ce0
      (refine takeL (i := 0) (v := ?_) rfl (by kernel_rfl) (by decide +kernel) (by decide +kernel) (fun _ _ _ h => h) (Or.inl ⟨by rfl, ?_⟩) (by assumption) ?_; rotate_left; (focus (intro w9 hS9; (try dsimp only at hS9); go_simp; (try with_reducible rfl); done)))
      (try simp only [Act.put, List.setIfInBounds_toArray, List.set_cons_zero, List.set_cons_succ])
      (refine takeL (i := 1) (v := ?_) rfl (by kernel_rfl) (by decide +kernel) (by decide +kernel) (fun _ _ _ h => h) (Or.inl ⟨by rfl, ?_⟩) (by assumption) ?_; rotate_left; (focus (intro w9 hS9; (try dsimp only at hS9); go_simp; (try with_reducible rfl); done)))
      (try simp only [Act.put, List.setIfInBounds_toArray, List.set_cons_zero, List.set_cons_succ])
      (refine takeL (i := 2) (v := ?_) rfl (by kernel_rfl) (by decide +kernel) (by decide +kernel) (fun _ _ _ h => h) (Or.inl ⟨by rfl, ?_⟩) (by assumption) ?_; rotate_left; (focus (intro w9 hS9; (try dsimp only at hS9); go_simp; (try with_reducible rfl); done)))
      (try simp only [Act.put, List.setIfInBounds_toArray, List.set_cons_zero, List.set_cons_succ])
      (refine takeL (i := 3) (v := ?_) rfl (by kernel_rfl) (by decide +kernel) (by decide +kernel) (fun _ _ _ h => h) (Or.inl ⟨by rfl, ?_⟩) (by assumption) ?_; rotate_left; (focus (intro w9 hS9; (try dsimp only at hS9); go_simp; (try with_reducible rfl); done)))
      (try simp only [Act.put, List.setIfInBounds_toArray, List.set_cons_zero, List.set_cons_succ])
      (refine takeL (i := 4) (v := ?_) rfl (by kernel_rfl) (by decide +kernel) (by decide +kernel) (fun _ _ _ h => h) (Or.inl ⟨by rfl, ?_⟩) (by assumption) ?_; rotate_left; (focus (intro w9 hS9; (try dsimp only at hS9); go_simp; (try with_reducible rfl); done)))
      (try simp only [Act.put, List.setIfInBounds_toArray, List.set_cons_zero, List.set_cons_succ])
      (refine takeL (i := 5) (v := ?_) rfl (by kernel_rfl) (by decide +kernel) (by decide +kernel) (fun _ _ _ h => h) (Or.inl ⟨by rfl, ?_⟩) (by assumption) ?_; rotate_left; (focus (intro w9 hS9; (try dsimp only at hS9); go_simp; (try with_reducible rfl); done)))
      (try simp only [Act.put, List.setIfInBounds_toArray, List.set_cons_zero, List.set_cons_succ])
      (refine takeL (i := 6) (v := ?_) rfl (by kernel_rfl) (by decide +kernel) (by decide +kernel) (fun _ _ _ h => h) (Or.inl ⟨by rfl, ?_⟩) (by assumption) ?_; rotate_left; (focus (intro w9 hS9; (try dsimp only at hS9); go_simp; (try with_reducible rfl); done)))
      (try simp only [Act.put, List.setIfInBounds_toArray, List.set_cons_zero, List.set_cons_succ])
      (refine takeL (i := 7) (v := ?_) rfl (by kernel_rfl) (by decide +kernel) (by decide +kernel) (fun _ _ _ h => h) (Or.inl ⟨by rfl, ?_⟩) (by assumption) ?_; rotate_left; (focus (intro w9 hS9; (try dsimp only at hS9); go_simp; (try with_reducible rfl); done)))
      (try simp only [Act.put, List.setIfInBounds_toArray, List.set_cons_zero, List.set_cons_succ])
      (refine takeL (i := 8) (v := ?_) rfl (by kernel_rfl) (by decide +kernel) (by decide +kernel) (fun _ _ _ h => h) (Or.inl ⟨by rfl, ?_⟩) (by assumption) ?_; rotate_left; (focus (intro w9 hS9; (try dsimp only at hS9); go_simp; (try with_reducible rfl); done)))
      (try simp only [Act.put, List.setIfInBounds_toArray, List.set_cons_zero, List.set_cons_succ])
      refine wpAnyH_ready (rs := [9]) (by decide +kernel) (by simp) ?_
      refine consL rfl (fun K hK => ?_) ?_
      · (first | (go_at_call 51; refine (clone0_int _ _).mono ?_; rintro e w9 ⟨rfl, rfl⟩) | (go_simp; first | done | (first | (go_at_call 51; refine (clone0_int _ _).mono ?_; rintro e w9 ⟨rfl, rfl⟩))) | go_simp)
        (first | (with_reducible refine hK.out _ _ ?_ ?_) | (go_wp2_with fail; refine hK.out _ _ ?_ ?_))
        (focus ((first | with_reducible exact hHeld | with_reducible exact two_up HQ.out hHeld | exact two_set hgp hHeld)))
        clear hK K hHeld
        intro hHeld
        (try simp only [Act.put, List.setIfInBounds_toArray, List.set_cons_zero, List.set_cons_succ])
        (refine takeL (i := 10) (v := ?_) rfl (by kernel_rfl) (by decide +kernel) (by decide +kernel) (fun _ _ _ h => h) (Or.inl ⟨by rfl, ?_⟩) (by assumption) ?_; rotate_left; (focus (intro w9 hS9; (try dsimp only at hS9); go_simp; (try with_reducible rfl); done)))
        (try simp only [Act.put, List.setIfInBounds_toArray, List.set_cons_zero, List.set_cons_succ])
        (refine takeL (i := 11) (v := ?_) rfl (by kernel_rfl) (by decide +kernel) (by decide +kernel) (fun _ _ _ h => h) (Or.inl ⟨by rfl, ?_⟩) (by assumption) ?_; rotate_left; (focus (intro w9 hS9; (try dsimp only at hS9); go_simp; (try with_reducible rfl); done)))
        (try simp only [Act.put, List.setIfInBounds_toArray, List.set_cons_zero, List.set_cons_succ])
        refine wpAnyH_ready (rs := [12]) (by decide +kernel) (by simp) ?_
        refine consL rfl (fun K hK => ?_) ?_
        · (first | (go_at_call 51; refine (clone0_int _ _).mono ?_; rintro e w9 ⟨rfl, rfl⟩) | (go_simp; first | done | (first | (go_at_call 51; refine (clone0_int _ _).mono ?_; rintro e w9 ⟨rfl, rfl⟩))) | go_simp)
          (first | (with_reducible refine hK.out _ _ ?_ ?_) | (go_wp2_with fail; refine hK.out _ _ ?_ ?_))
          (focus ((first | with_reducible exact hHeld | with_reducible exact two_up HQ.out hHeld | exact two_set hgp hHeld)))
          clear hK K hHeld
          intro hHeld
          (try simp only [Act.put, List.setIfInBounds_toArray, List.set_cons_zero, List.set_cons_succ])
          refine wpAnyH_done (by decide +kernel) ?_ _
          go_upto_region 10 with fail
          have HX := Lib.hid (HX1.out.other hgp.symm (c := gb) (j := q * 3) (.slice none 0 0))
          have HY := Lib.hid (HY1.out.other hgw.symm (c := gb) (j := q * 3) (.slice none 0 0))
          have HE := Lib.hid (own_same HE1.out HEA.out)
          have HKW := Lib.hid (HK1.out.set (j := q * 3) (.inr HGK.out) (.slice none 0 0))
          clear HX1 HY1 HE1 HEA HK1 ce1 hHeld
          generalize X.setCell ⟨gb, q * 3, none⟩ (.slice none 0 0) = WW at HX HY HE HKW ⊢
          obtain ⟨X, hX⟩ : ∃ X, X = WW.drew := ⟨_, rfl⟩
          have HX1 := Lib.hid (hX ▸ HX.out.up (Bdrw (Below.refl _ _)) : Bl 52 p #[.int .i64 v, .slice (some ⟨gb, 0, none⟩) N ce, .slice Ad xs.length cd] X)
          have HY1 := Lib.hid (hX ▸ HY.out.up (Bdrw (Below.refl _ _)) : Bl 52 w.heap.size #[.int .i64 0, .slice none 0 0, .slice none 0 0] X)
          have HE1 := Lib.hid (hX ▸ own_up HE.out (Bdrw (Below.refl _ _)) : X.ownsRow (p + 1) 115 3 (.slice (some ⟨gb, 0, none⟩) N ce) N (ents N))
          have HEA : Hid ((ents N)[q * 3 + 2]? = some (.slice none 0 0)) := Lib.hid (by have := ents_at N q 2 hlt (by decide); exact this)
          obtain ⟨ce0, ce1⟩ := own_cell3 HE1.out HEA.out
          have hx1 := HX1.out.cell 1 rfl
          have HK1 := Lib.hid (hX ▸ HKW.out.drew : Kp [rb] w X)
          clear HX HY HE HKW
          refine wp_region_held_drew (S := (fun w' => w'.cell? ⟨p, 1, none⟩ = some (.slice (some ⟨gb, 0, none⟩) N ce) ∧ w'.cell? ⟨gb, q * 3 + 2, none⟩ = some (.slice none 0 0))) (by kernel_rfl) ?_ (fun hHeld => ?_)
          · exact hX ▸ ⟨hx1, ce0⟩
          rw [← hX] at hHeld ⊢
          clear hX hx1 ce0
          (refine takeL (i := 0) (v := ?_) rfl (by kernel_rfl) (by decide +kernel) (by decide +kernel) (fun _ _ _ h => h) (Or.inl ⟨by rfl, ?_⟩) (by assumption) ?_; rotate_left; (focus (intro w9 hS9; (try dsimp only at hS9); go_simp; (try with_reducible rfl); done)))
          (try simp only [Act.put, List.setIfInBounds_toArray, List.set_cons_zero, List.set_cons_succ])
          (refine takeL (i := 1) (v := ?_) rfl (by kernel_rfl) (by decide +kernel) (by decide +kernel) (fun _ _ _ h => h) (Or.inl ⟨by rfl, ?_⟩) (by assumption) ?_; rotate_left; (focus (intro w9 hS9; (try dsimp only at hS9); go_simp; (try with_reducible rfl); done)))
          (try simp only [Act.put, List.setIfInBounds_toArray, List.set_cons_zero, List.set_cons_succ])
          (refine takeL (i := 2) (v := ?_) rfl (by kernel_rfl) (by decide +kernel) (by decide +kernel) (fun _ _ _ h => h) (Or.inl ⟨by rfl, ?_⟩) (by assumption) ?_; rotate_left; (focus (intro w9 hS9; (try dsimp only at hS9); go_simp; (try with_reducible rfl); done)))
          (try simp only [Act.put, List.setIfInBounds_toArray, List.set_cons_zero, List.set_cons_succ])
          (refine takeL (i := 3) (v := ?_) rfl (by kernel_rfl) (by decide +kernel) (by decide +kernel) (fun _ _ _ h => h) (Or.inl ⟨by rfl, ?_⟩) (by assumption) ?_; rotate_left; (focus (intro w9 hS9; (try dsimp only at hS9); go_simp; (try with_reducible rfl); done)))
          (try simp only [Act.put, List.setIfInBounds_toArray, List.set_cons_zero, List.set_cons_succ])
          (refine takeL (i := 4) (v := ?_) rfl (by kernel_rfl) (by decide +kernel) (by decide +kernel) (fun _ _ _ h => h) (Or.inl ⟨by rfl, ?_⟩) (by assumption) ?_; rotate_left; (focus (intro w9 hS9; (try dsimp only at hS9); go_simp; (try with_reducible rfl); done)))
          (try simp only [Act.put, List.setIfInBounds_toArray, List.set_cons_zero, List.set_cons_succ])
          (refine takeL (i := 5) (v := ?_) rfl (by kernel_rfl) (by decide +kernel) (by decide +kernel) (fun _ _ _ h => h) (Or.inl ⟨by rfl, ?_⟩) (by assumption) ?_; rotate_left; (focus (intro w9 hS9; (try dsimp only at hS9); go_simp; (try with_reducible rfl); done)))
          (try simp only [Act.put, List.setIfInBounds_toArray, List.set_cons_zero, List.set_cons_succ])
          (refine takeL (i := 6) (v := ?_) rfl (by kernel_rfl) (by decide +kernel) (by decide +kernel) (fun _ _ _ h => h) (Or.inl ⟨by rfl, ?_⟩) (by assumption) ?_; rotate_left; (focus (intro w9 hS9; (try dsimp only at hS9); go_simp; (try with_reducible rfl); done)))
          (try simp only [Act.put, List.setIfInBounds_toArray, List.set_cons_zero, List.set_cons_succ])
          (refine takeL (i := 7) (v := ?_) rfl (by kernel_rfl) (by decide +kernel) (by decide +kernel) (fun _ _ _ h => h) (Or.inl ⟨by rfl, ?_⟩) (by assumption) ?_; rotate_left; (focus (intro w9 hS9; (try dsimp only at hS9); go_simp; (try with_reducible rfl); done)))
          (try simp only [Act.put, List.setIfInBounds_toArray, List.set_cons_zero, List.set_cons_succ])
          (refine takeL (i := 8) (v := ?_) rfl (by kernel_rfl) (by decide +kernel) (by decide +kernel) (fun _ _ _ h => h) (Or.inl ⟨by rfl, ?_⟩) (by assumption) ?_; rotate_left; (focus (intro w9 hS9; (try dsimp only at hS9); go_simp; (try with_reducible rfl); done)))
          (try simp only [Act.put, List.setIfInBounds_toArray, List.set_cons_zero, List.set_cons_succ])
          refine wpAnyH_ready (rs := [9]) (by decide +kernel) (by simp) ?_
          refine consL rfl (fun K hK => ?_) ?_
          · (first | (go_at_call 38; refine (clone0_Segment _ _).mono ?_; rintro e w9 ⟨rfl, rfl⟩) | (go_simp; first | done | (first | (go_at_call 38; refine (clone0_Segment _ _).mono ?_; rintro e w9 ⟨rfl, rfl⟩))) | go_simp)
            (first | (with_reducible refine hK.out _ _ ?_ ?_) | (go_wp2_with fail; refine hK.out _ _ ?_ ?_))
            (focus ((first | with_reducible exact hHeld | with_reducible exact two_up HQ.out hHeld | exact two_set hgp hHeld)))
            clear hK K hHeld
            intro hHeld
            (try simp only [Act.put, List.setIfInBounds_toArray, List.set_cons_zero, List.set_cons_succ])
            (refine takeL (i := 10) (v := ?_) rfl (by kernel_rfl) (by decide +kernel) (by decide +kernel) (fun _ _ _ h => h) (Or.inl ⟨by rfl, ?_⟩) (by assumption) ?_; rotate_left; (focus (intro w9 hS9; (try dsimp only at hS9); go_simp; (try with_reducible rfl); done)))
            (try simp only [Act.put, List.setIfInBounds_toArray, List.set_cons_zero, List.set_cons_succ])
            (refine takeL (i := 11) (v := ?_) rfl (by kernel_rfl) (by decide +kernel) (by decide +kernel) (fun _ _ _ h => h) (Or.inl ⟨by rfl, ?_⟩) (by assumption) ?_; rotate_left; (focus (intro w9 hS9; (try dsimp only at hS9); go_simp; (try with_reducible rfl); done)))
            (try simp only [Act.put, List.setIfInBounds_toArray, List.set_cons_zero, List.set_cons_succ])
            refine wpAnyH_ready (rs := [12]) (by decide +kernel) (by simp) ?_
            refine consL rfl (fun K hK => ?_) ?_
            · (first | (go_at_call 38; refine (clone0_Segment _ _).mono ?_; rintro e w9 ⟨rfl, rfl⟩) | (go_simp; first | done | (first | (go_at_call 38; refine (clone0_Segment _ _).mono ?_; rintro e w9 ⟨rfl, rfl⟩))) | go_simp)
              (first | (with_reducible refine hK.out _ _ ?_ ?_) | (go_wp2_with fail; refine hK.out _ _ ?_ ?_))
              (focus ((first | with_reducible exact hHeld | with_reducible exact two_up HQ.out hHeld | exact two_set hgp hHeld)))
              clear hK K hHeld
              intro hHeld
              (try simp only [Act.put, List.setIfInBounds_toArray, List.set_cons_zero, List.set_cons_succ])
              refine wpAnyH_done (by decide +kernel) ?_ _
              go_wp2_with fail
              go_roundg (gk - 1)
              case measure => omega
              case rel => exact ⟨q + 1, by omega, by go_num, Lib.hid (HX1.out.other hgp.symm _), Lib.hid (HY1.out.other hgw.symm _), Lib.hid (own_same HE1.out HEA.out), Lib.hid (HK1.out.set (.inr HGK.out) _)⟩
            exact AllReadyH.nil
          exact AllReadyH.nil
        exact AllReadyH.nil
      exact AllReadyH.nil
    · obtain rfl : q = N := by omega
      have hlf : ¬ ((q : Int) < (q : Int)) := by omega
      obtain ⟨x0, x1, x2, fx⟩ := HX.out.c3
      obtain ⟨y0, y1, y2, fy⟩ := HY.out.c3
      have n1 : p ≠ w.heap.size := by have := HWP.out; omega
      have n2 : w.heap.size ≠ p := by have := HWP.out; omega
      go_wp2_with fail
      exact bodyPost_ret (v := .agg #[.int .i64 v, .slice Ae q ce, .slice Ad xs.length cd]) (by simp [results, Tryz.results15, go_sem, y0, y1, y2]) rfl ⟨⟨_, _, rfl⟩, ((HKW.out.set (.inr (Nat.le_refl _)) _).set (.inr (Nat.le_refl _)) _).set (.inr (Nat.le_refl _)) _⟩
end
end Go.Proofs.YtenhliibmcmnbaaGreat
