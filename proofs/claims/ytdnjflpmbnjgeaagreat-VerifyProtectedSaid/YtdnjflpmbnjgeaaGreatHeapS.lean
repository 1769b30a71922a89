/-
  An indexed queue in memory: swap (printed by gen_heap.py).
-/
import Derived.Test.YtdnjflpmbnjgeaaGreatHeap
set_option linter.unusedSimpArgs false
set_option linter.unusedVariables false
namespace Go.Proofs.YtdnjflpmbnjgeaaGreat
section
open Go.RowKit Go.Sort
theorem wp_named3 {P : Program} {c : Code} {Q : Exit → Act → World → Prop} {a : Act} {W : World} (R : World → Prop) (h : R W) (k : ∀ W', R W' → c.wp P Q a W') : c.wp P Q a W := k W h
section
variable {B hb N kb pb : Nat} {v : Value} {ks ps os : List Int} {w : World}
theorem own_len {w : World} {base g m n c size : Nat} {E : TypeId} {xs : List Value} (h : w.ownsRow base E size (.slice (some ⟨g, 0, none⟩) m c) n xs) : m = n := by
 rcases h with ⟨hl, ⟨h0, h1⟩ | ⟨g, cap, cur, h0, hb, hg, hnc, hcm, hs, ht⟩⟩
 ·cases h0
 ·injection h0
theorem own_intL {w : World} {base g m n c k : Nat} {E : TypeId} {xs : List Int} (ho : w.ownsRow base E 1 (.slice (some ⟨g, 0, none⟩) m c) n (xs.map (Value.int .i64))) (hk : k < n) :
    w.cell? ⟨g, k, none⟩ = some (.int .i64 (xs.getD k 0)) ∧ w.frozen? ⟨g, k, none⟩ = false := by
 obtain rfl := own_len ho
 exact bZ ho hk
/-- A store into the row of the held items. -/
theorem HeapR.setO {g c k m : Nat} (h : HeapR B hb N kb pb (.slice (some ⟨g, 0, none⟩) m c) ks ps os w) (x : Int) : HeapR B hb N kb pb (.slice (some ⟨g, 0, none⟩) m c) ks ps (os.set k x) (w.setCell ⟨g, k, none⟩ (.int .i64 x)) := by
 obtain ⟨n1, n2, n3, n4, n5, n6, n7⟩ := h.ne
 have m1 : g ≠ kb := by simpa [Value.ownBlock] using n4
 have m2 : g ≠ pb := by simpa [Value.ownBlock] using n5
 have m3 : g ≠ hb := by simpa [Value.ownBlock] using n6
 refine ⟨h.h.other m3.symm _, jZ h.k (by simp [Value.ownBlock]; omega) _, jZ h.p (by simp [Value.ownBlock]; omega) _, ?_, n1, n2, n3, n4, n5, n6, n7⟩
 have ho := h.o
 obtain rfl := own_len ho
 rw [List.length_set]
 exact own_put ho x
/-- A store into the row of places. -/
theorem HeapR.setP {k : Nat} (h : HeapR B hb N kb pb v ks ps os w) (x : Int) : HeapR B hb N kb pb v ks (ps.set k x) os (w.setCell ⟨pb, k, none⟩ (.int .i64 x)) := by
 obtain ⟨n1, n2, n3, n4, n5, n6, n7⟩ := h.ne
 exact ⟨h.h.other n3.symm _, jZ h.k (by simp [Value.ownBlock]; omega) _, own_put h.p x, jZ h.o n5 _, n1, n2, n3, n4, n5, n6, n7⟩
/-- A store into the row of keys. -/
theorem HeapR.setK {k : Nat} (h : HeapR B hb N kb pb v ks ps os w) (x : Int) : HeapR B hb N kb pb v (ks.set k x) ps os (w.setCell ⟨kb, k, none⟩ (.int .i64 x)) := by
 obtain ⟨n1, n2, n3, n4, n5, n6, n7⟩ := h.ne
 exact ⟨h.h.other n2.symm _, own_put h.k x, jZ h.p (by simp [Value.ownBlock]; omega) _, jZ h.o n4 _, n1, n2, n3, n4, n5, n6, n7⟩
theorem q2_set {b o b' o' b2 o2 : Nat} {x y u : Value} {w : World} (hb : b' ≠ b) (hb2 : b' ≠ b2) (h : w.cell? ⟨b, o, none⟩ = some x ∧ w.cell? ⟨b2, o2, none⟩ = some y) : (w.setCell ⟨b', o', none⟩ u).cell? ⟨b, o, none⟩ = some x ∧ (w.setCell ⟨b', o', none⟩ u).cell? ⟨b2, o2, none⟩ = some y := ⟨q1_set hb h.1, q1_set hb2 h.2⟩
theorem q3_set {b o b' o' b2 o2 b3 o3 : Nat} {x y z u : Value} {w : World} (hb : b' ≠ b) (hb2 : b' ≠ b2) (hb3 : b' ≠ b3) (h : w.cell? ⟨b, o, none⟩ = some x ∧ w.cell? ⟨b2, o2, none⟩ = some y ∧ w.cell? ⟨b3, o3, none⟩ = some z) : (w.setCell ⟨b', o', none⟩ u).cell? ⟨b, o, none⟩ = some x ∧ (w.setCell ⟨b', o', none⟩ u).cell? ⟨b2, o2, none⟩ = some y ∧ (w.setCell ⟨b', o', none⟩ u).cell? ⟨b3, o3, none⟩ = some z := ⟨q1_set hb h.1, q1_set hb2 h.2.1, q1_set hb3 h.2.2⟩
theorem swO_other {os : List Int} {p q : Nat} (hp : p < os.length) (hq : q < os.length) : (swO os p q).getD p 0 = os.getD q 0 ∧ (swO os p q).getD q 0 = os.getD p 0 := by
 constructor
 ·rw [List.getD_eq_getElem?_getD, swO_get hp hq]
  by_cases e : p = q
  ·subst e; simp
  ·rw [if_neg e, if_pos rfl]; rfl
 ·rw [List.getD_eq_getElem?_getD, swO_get hp hq, if_pos rfl]; rfl
set_option maxRecDepth 100000 in
set_option maxHeartbeats 4000000 in
theorem heap_swapE (p : Nat) (hN : N ≤ 65536) (h : HP N ks ps os) (H : HeapR B hb N kb pb v ks ps os w) (hp : p < os.length) :
    Calls Tryz.prog 128 #[.pointer (some ⟨hb, 0, none⟩), .int .i64 p, .int .i64 p] w fun e w' => e = .returned (.tuple #[]) ∧ HeapR B hb N kb pb v ks (swP ps os p p) (swO os p p) w' ∧ Below B w w' := by
 obtain ⟨g, c, rfl, hc, hg⟩ := own_at H.o (by omega)
 have hp' : (p : Int) < (os.length : Int) := by omega
 have hlen := h.le
 obtain ⟨n1, n2, n3, n4, n5, n6, n7⟩ := H.ne
 have m1 : g ≠ kb := by simpa [Value.ownBlock] using n4
 have m2 : g ≠ pb := by simpa [Value.ownBlock] using n5
 have m3 : g ≠ hb := by simpa [Value.ownBlock] using n6
 have m4 : hb ≠ g := m3.symm
 have m6 : pb ≠ g := m2.symm
 have HPQ := hU hp
 have HGB := hU hg
 have HPB := hU H.pB
 obtain ⟨a1, a2, _⟩ := h.a p _ (getD_some hp)
 have HXO : Hid (swO os p p = (os.set p (os.getD p 0)).set p (os.getD p 0)) := hU rfl
 have HXP : Hid (swP ps os p p = (ps.set (os.getD p 0).toNat ((p : Int) + 1)).set (os.getD p 0).toNat ((p : Int) + 1)) := hU rfl
 obtain ⟨W, hW⟩ : ∃ W, W = w.drew := ⟨_, rfl⟩
 have HH := hU (hW ▸ H.up (Bdrw (Below.refl _ _)) : HeapR B hb N kb pb (.slice (some ⟨g, 0, none⟩) os.length c) ks ps os W)
 have HB := hU (hW ▸ Bdrw (Below.refl B w) : Below B w W)
 have HL := hU (swO_other hp hp)
 obtain ⟨h0, h1, h2, hf⟩ := HH.out.h.c3
 obtain ⟨ip, fp⟩ := bZ HH.out.o hp
 have HWP : Hid (IntKind.i64.wrap ((p : Int) + 1) = (p : Int) + 1) := hU (by rw [IntKind.wrap_i64]; omega)
 have HWQ : Hid (IntKind.i64.wrap ((p : Int) + 1) = (p : Int) + 1) := hU (by rw [IntKind.wrap_i64]; omega)
 clear h H hg n4 n5 n6 hp h0
 go_enter Tryz.func128, Tryz.ntmps128
 go_wp2_with fail
 refine wp_region_held_drew (S := (fun w' => w'.cell? ⟨hb, 2, none⟩ = some (.slice (some ⟨g, 0, none⟩) os.length c))) (by kernel_rfl) ?_ (fun hHeld => ?_)
 ·exact hW ▸ h2
 rw [← hW] at hHeld ⊢
 clear hW
 generalize os.getD p 0 = xp at *
 refine tk 0 ?_
 (try simp only [Act.put, sA, sB, sC])
 refine tk 1 ?_
 (try simp only [Act.put, sA, sB, sC])
 refine tk 2 ?_
 (try simp only [Act.put, sA, sB, sC])
 refine tk 3 ?_
 (try simp only [Act.put, sA, sB, sC])
 refine tk 4 ?_
 (try simp only [Act.put, sA, sB, sC])
 refine tk 5 ?_
 (try simp only [Act.put, sA, sB, sC])
 refine tk 6 ?_
 (try simp only [Act.put, sA, sB, sC])
 refine tk 7 ?_
 (try simp only [Act.put, sA, sB, sC])
 refine tk 8 ?_
 (try simp only [Act.put, sA, sB, sC])
 refine tk 9 ?_
 (try simp only [Act.put, sA, sB, sC])
 refine tk 10 ?_
 (try simp only [Act.put, sA, sB, sC])
 refine tk 11 ?_
 (try simp only [Act.put, sA, sB, sC])
 refine tk 12 ?_
 (try simp only [Act.put, sA, sB, sC])
 refine tk 13 ?_
 (try simp only [Act.put, sA, sB, sC])
 refine tk 14 ?_
 (try simp only [Act.put, sA, sB, sC])
 refine tk 15 ?_
 (try simp only [Act.put, sA, sB, sC])
 refine tk 17 ?_
 (try simp only [Act.put, sA, sB, sC])
 refine tk 18 ?_
 (try simp only [Act.put, sA, sB, sC])
 refine tk 19 ?_
 (try simp only [Act.put, sA, sB, sC])
 refine tk 20 ?_
 (try simp only [Act.put, sA, sB, sC])
 refine tk 21 ?_
 (try simp only [Act.put, sA, sB, sC])
 refine tk 22 ?_
 (try simp only [Act.put, sA, sB, sC])
 refine wpAnyH_ready (rs := [16, 23]) (by decide +kernel) (by simp) ?_
 refine consL rfl (fun K hK => ?_) ?_
 ·(first | fail | (go_simp; first | done | (first | fail)) | go_simp)
  (first | (with_reducible refine hK.out _ _ ?_ ?_) | (go_wp2_with fail; refine hK.out _ _ ?_ ?_))
  (focus ((first | with_reducible exact hHeld | with_reducible exact q1_set m3 hHeld)))
  clear hK K hHeld
  intro hHeld
  (try simp only [Act.put, sA, sB, sC])
  refine wpAnyH_ready (rs := [23]) (by decide +kernel) (by simp) ?_
  refine consL rfl (fun K hK => ?_) ?_
  ·(first | fail | (go_simp; first | done | (first | fail)) | go_simp)
   (first | (with_reducible refine hK.out _ _ ?_ ?_) | (go_wp2_with fail; refine hK.out _ _ ?_ ?_))
   (focus ((first | with_reducible exact hHeld | with_reducible exact q1_set m3 hHeld)))
   clear hK K hHeld
   intro hHeld
   (try simp only [Act.put, sA, sB, sC])
   refine tk 24 ?_
   (try simp only [Act.put, sA, sB, sC])
   refine wpAnyH_ready (rs := [25]) (by decide +kernel) (by simp) ?_
   refine consL rfl (fun K hK => ?_) ?_
   ·(first | fail | (go_simp; first | done | (first | fail)) | go_simp)
    (first | (with_reducible refine hK.out _ _ ?_ ?_) | (go_wp2_with fail; refine hK.out _ _ ?_ ?_))
    (focus ((first | with_reducible exact hHeld | with_reducible exact q1_set m3 hHeld)))
    clear hK K hHeld
    intro hHeld
    (try simp only [Act.put, sA, sB, sC])
    refine tk 26 ?_
    (try simp only [Act.put, sA, sB, sC])
    refine wpAnyH_ready (rs := [27]) (by decide +kernel) (by simp) ?_
    refine consL rfl (fun K hK => ?_) ?_
    ·(first | fail | (go_simp; first | done | (first | fail)) | go_simp)
     (first | (with_reducible refine hK.out _ _ ?_ ?_) | (go_wp2_with fail; refine hK.out _ _ ?_ ?_))
     (focus ((first | with_reducible exact hHeld | with_reducible exact q1_set m3 hHeld)))
     clear hK K hHeld
     intro hHeld
     (try simp only [Act.put, sA, sB, sC])
     refine wpAnyH_done (by decide +kernel) ?_ _
     go_wp2_with fail
     refine wp_named3 (fun X => HeapR B hb N kb pb (.slice (some ⟨g, 0, none⟩) os.length c) ks ps (swO os p p) X ∧ Below B w X) ⟨?_, ?_⟩ ?_
     ·rw [HXO.out]; exact (HH.out.setO xp).setO xp
     ·exact Bset (Bset HB.out HGB.out) HGB.out
     rintro X ⟨hX, hXB⟩
     obtain ⟨W1, hW1⟩ : ∃ W1, W1 = X.drew := ⟨_, rfl⟩
     have HX := hU (hW1 ▸ hX.up (Bdrw (Below.refl _ _)) : HeapR B hb N kb pb (.slice (some ⟨g, 0, none⟩) os.length c) ks ps (swO os p p) W1)
     have HXB := hU (hW1 ▸ Bdrw hXB : Below B w W1)
     clear h1 h2 hf ip fp hX hXB hHeld
     obtain ⟨h0, h1, h2, hf⟩ := HX.out.h.c3
     have ip := (own_intL HX.out.o (k := p) (by rw [swO_len]; exact HPQ.out)).1
     rw [HL.out.1] at ip
     obtain ⟨cp, fp⟩ := bZ HX.out.p (k := xp.toNat) (by omega)
     refine wp_region_held_drew (S := (fun w' => w'.cell? ⟨hb, 1, none⟩ = some (.slice (some ⟨pb, 0, none⟩) N N) ∧ w'.cell? ⟨hb, 2, none⟩ = some (.slice (some ⟨g, 0, none⟩) os.length c) ∧ w'.cell? ⟨g, p, none⟩ = some (.int .i64 xp))) (by kernel_rfl) ?_ (fun hHeld => ?_)
     ·exact hW1 ▸ ⟨h1, h2, ip⟩
     rw [← hW1] at hHeld ⊢
     clear hW1
     refine tk 0 ?_
     (try simp only [Act.put, sA, sB, sC])
     refine tk 1 ?_
     (try simp only [Act.put, sA, sB, sC])
     refine tk 2 ?_
     (try simp only [Act.put, sA, sB, sC])
     refine tk 3 ?_
     (try simp only [Act.put, sA, sB, sC])
     refine tk 4 ?_
     (try simp only [Act.put, sA, sB, sC])
     refine tk 5 ?_
     (try simp only [Act.put, sA, sB, sC])
     refine tk 6 ?_
     (try simp only [Act.put, sA, sB, sC])
     refine tk 7 ?_
     (try simp only [Act.put, sA, sB, sC])
     refine tk 8 ?_
     (try simp only [Act.put, sA, sB, sC])
     refine tk 9 ?_
     (try simp only [Act.put, sA, sB, sC])
     refine tk 10 ?_
     (try simp only [Act.put, sA, sB, sC])
     refine tk 11 ?_
     (try simp only [Act.put, sA, sB, sC])
     refine tk 12 ?_
     (try simp only [Act.put, sA, sB, sC])
     refine tk 13 ?_
     (try simp only [Act.put, sA, sB, sC])
     refine wpAnyH_ready (rs := [14]) (by decide +kernel) (by simp) ?_
     refine consL rfl (fun K hK => ?_) ?_
     ·(first | fail | (go_simp; first | done | (first | fail)) | go_simp)
      (first | (with_reducible refine hK.out _ _ ?_ ?_) | (go_wp2_with fail; refine hK.out _ _ ?_ ?_))
      (focus ((first | with_reducible exact hHeld | with_reducible exact q3_set n3 n3 m6 hHeld)))
      clear hK K hHeld
      intro hHeld
      (try simp only [Act.put, sA, sB, sC])
      refine wpAnyH_done (by decide +kernel) ?_ _
      go_wp2_with fail
      refine wp_named3 (fun Y => HeapR B hb N kb pb (.slice (some ⟨g, 0, none⟩) os.length c) ks (ps.set xp.toNat ((p : Int) + 1)) (swO os p p) Y ∧ Below B w Y) ⟨?_, ?_⟩ ?_
      ·rw [HWP.out]; exact HX.out.setP _
      ·exact Bset HXB.out HPB.out
      rintro Y ⟨hY, hYB⟩
      obtain ⟨W2, hW2⟩ : ∃ W2, W2 = Y.drew := ⟨_, rfl⟩
      have HY := hU (hW2 ▸ hY.up (Bdrw (Below.refl _ _)) : HeapR B hb N kb pb (.slice (some ⟨g, 0, none⟩) os.length c) ks (ps.set xp.toNat ((p : Int) + 1)) (swO os p p) W2)
      have HYB := hU (hW2 ▸ Bdrw hYB : Below B w W2)
      clear h0 h1 h2 hf ip cp fp hY hYB hHeld
      obtain ⟨h0, h1, h2, hf⟩ := HY.out.h.c3
      have iq := (own_intL HY.out.o (k := p) (by rw [swO_len]; exact HPQ.out)).1
      rw [HL.out.2] at iq
      obtain ⟨cq, fq⟩ := bZ HY.out.p (k := xp.toNat) (by omega)
      refine wp_region_held_drew (S := (fun w' => w'.cell? ⟨hb, 1, none⟩ = some (.slice (some ⟨pb, 0, none⟩) N N) ∧ w'.cell? ⟨hb, 2, none⟩ = some (.slice (some ⟨g, 0, none⟩) os.length c) ∧ w'.cell? ⟨g, p, none⟩ = some (.int .i64 xp))) (by kernel_rfl) ?_ (fun hHeld => ?_)
      ·exact hW2 ▸ ⟨h1, h2, iq⟩
      rw [← hW2] at hHeld ⊢
      clear hW2
      refine tk 0 ?_
      (try simp only [Act.put, sA, sB, sC])
      refine tk 1 ?_
      (try simp only [Act.put, sA, sB, sC])
      refine tk 2 ?_
      (try simp only [Act.put, sA, sB, sC])
      refine tk 3 ?_
      (try simp only [Act.put, sA, sB, sC])
      refine tk 4 ?_
      (try simp only [Act.put, sA, sB, sC])
      refine tk 5 ?_
      (try simp only [Act.put, sA, sB, sC])
      refine tk 6 ?_
      (try simp only [Act.put, sA, sB, sC])
      refine tk 7 ?_
      (try simp only [Act.put, sA, sB, sC])
      refine tk 8 ?_
      (try simp only [Act.put, sA, sB, sC])
      refine tk 9 ?_
      (try simp only [Act.put, sA, sB, sC])
      refine tk 10 ?_
      (try simp only [Act.put, sA, sB, sC])
      refine tk 11 ?_
      (try simp only [Act.put, sA, sB, sC])
      refine tk 12 ?_
      (try simp only [Act.put, sA, sB, sC])
      refine tk 13 ?_
      (try simp only [Act.put, sA, sB, sC])
      refine wpAnyH_ready (rs := [14]) (by decide +kernel) (by simp) ?_
      refine consL rfl (fun K hK => ?_) ?_
      ·(first | fail | (go_simp; first | done | (first | fail)) | go_simp)
       (first | (with_reducible refine hK.out _ _ ?_ ?_) | (go_wp2_with fail; refine hK.out _ _ ?_ ?_))
       (focus ((first | with_reducible exact hHeld | with_reducible exact q3_set n3 n3 m6 hHeld)))
       clear hK K hHeld
       intro hHeld
       (try simp only [Act.put, sA, sB, sC])
       refine wpAnyH_done (by decide +kernel) ?_ _
       go_wp2_with fail
       go_end0
       exact ⟨rfl, by rw [HXP.out, HWQ.out]; exact HY.out.setP _, Bset HYB.out HPB.out⟩
      exact AllReadyH.nil
     exact AllReadyH.nil
    exact AllReadyH.nil
   exact AllReadyH.nil
  exact AllReadyH.nil
 refine consL rfl (fun K hK => ?_) ?_
 ·(first | fail | (go_simp; first | done | (first | fail)) | go_simp)
  (first | (with_reducible refine hK.out _ _ ?_ ?_) | (go_wp2_with fail; refine hK.out _ _ ?_ ?_))
  (focus ((first | with_reducible exact hHeld | with_reducible exact q1_set m3 hHeld)))
  clear hK K hHeld
  intro hHeld
  (try simp only [Act.put, sA, sB, sC])
  refine wpAnyH_ready (rs := [16]) (by decide +kernel) (by simp) ?_
  refine consL rfl (fun K hK => ?_) ?_
  ·(first | fail | (go_simp; first | done | (first | fail)) | go_simp)
   (first | (with_reducible refine hK.out _ _ ?_ ?_) | (go_wp2_with fail; refine hK.out _ _ ?_ ?_))
   (focus ((first | with_reducible exact hHeld | with_reducible exact q1_set m3 hHeld)))
   clear hK K hHeld
   intro hHeld
   (try simp only [Act.put, sA, sB, sC])
   refine tk 24 ?_
   (try simp only [Act.put, sA, sB, sC])
   refine wpAnyH_ready (rs := [25]) (by decide +kernel) (by simp) ?_
   refine consL rfl (fun K hK => ?_) ?_
   ·(first | fail | (go_simp; first | done | (first | fail)) | go_simp)
    (first | (with_reducible refine hK.out _ _ ?_ ?_) | (go_wp2_with fail; refine hK.out _ _ ?_ ?_))
    (focus ((first | with_reducible exact hHeld | with_reducible exact q1_set m3 hHeld)))
    clear hK K hHeld
    intro hHeld
    (try simp only [Act.put, sA, sB, sC])
    refine tk 26 ?_
    (try simp only [Act.put, sA, sB, sC])
    refine wpAnyH_ready (rs := [27]) (by decide +kernel) (by simp) ?_
    refine consL rfl (fun K hK => ?_) ?_
    ·(first | fail | (go_simp; first | done | (first | fail)) | go_simp)
     (first | (with_reducible refine hK.out _ _ ?_ ?_) | (go_wp2_with fail; refine hK.out _ _ ?_ ?_))
     (focus ((first | with_reducible exact hHeld | with_reducible exact q1_set m3 hHeld)))
     clear hK K hHeld
     intro hHeld
     (try simp only [Act.put, sA, sB, sC])
     refine wpAnyH_done (by decide +kernel) ?_ _
     go_wp2_with fail
     refine wp_named3 (fun X => HeapR B hb N kb pb (.slice (some ⟨g, 0, none⟩) os.length c) ks ps (swO os p p) X ∧ Below B w X) ⟨?_, ?_⟩ ?_
     ·rw [HXO.out]; exact (HH.out.setO xp).setO xp
     ·exact Bset (Bset HB.out HGB.out) HGB.out
     rintro X ⟨hX, hXB⟩
     obtain ⟨W1, hW1⟩ : ∃ W1, W1 = X.drew := ⟨_, rfl⟩
     have HX := hU (hW1 ▸ hX.up (Bdrw (Below.refl _ _)) : HeapR B hb N kb pb (.slice (some ⟨g, 0, none⟩) os.length c) ks ps (swO os p p) W1)
     have HXB := hU (hW1 ▸ Bdrw hXB : Below B w W1)
     clear h1 h2 hf ip fp hX hXB hHeld
     obtain ⟨h0, h1, h2, hf⟩ := HX.out.h.c3
     have ip := (own_intL HX.out.o (k := p) (by rw [swO_len]; exact HPQ.out)).1
     rw [HL.out.1] at ip
     obtain ⟨cp, fp⟩ := bZ HX.out.p (k := xp.toNat) (by omega)
     refine wp_region_held_drew (S := (fun w' => w'.cell? ⟨hb, 1, none⟩ = some (.slice (some ⟨pb, 0, none⟩) N N) ∧ w'.cell? ⟨hb, 2, none⟩ = some (.slice (some ⟨g, 0, none⟩) os.length c) ∧ w'.cell? ⟨g, p, none⟩ = some (.int .i64 xp))) (by kernel_rfl) ?_ (fun hHeld => ?_)
     ·exact hW1 ▸ ⟨h1, h2, ip⟩
     rw [← hW1] at hHeld ⊢
     clear hW1
     refine tk 0 ?_
     (try simp only [Act.put, sA, sB, sC])
     refine tk 1 ?_
     (try simp only [Act.put, sA, sB, sC])
     refine tk 2 ?_
     (try simp only [Act.put, sA, sB, sC])
     refine tk 3 ?_
     (try simp only [Act.put, sA, sB, sC])
     refine tk 4 ?_
     (try simp only [Act.put, sA, sB, sC])
     refine tk 5 ?_
     (try simp only [Act.put, sA, sB, sC])
     refine tk 6 ?_
     (try simp only [Act.put, sA, sB, sC])
     refine tk 7 ?_
     (try simp only [Act.put, sA, sB, sC])
     refine tk 8 ?_
     (try simp only [Act.put, sA, sB, sC])
     refine tk 9 ?_
     (try simp only [Act.put, sA, sB, sC])
     refine tk 10 ?_
     (try simp only [Act.put, sA, sB, sC])
     refine tk 11 ?_
     (try simp only [Act.put, sA, sB, sC])
     refine tk 12 ?_
     (try simp only [Act.put, sA, sB, sC])
     refine tk 13 ?_
     (try simp only [Act.put, sA, sB, sC])
     refine wpAnyH_ready (rs := [14]) (by decide +kernel) (by simp) ?_
     refine consL rfl (fun K hK => ?_) ?_
     ·(first | fail | (go_simp; first | done | (first | fail)) | go_simp)
      (first | (with_reducible refine hK.out _ _ ?_ ?_) | (go_wp2_with fail; refine hK.out _ _ ?_ ?_))
      (focus ((first | with_reducible exact hHeld | with_reducible exact q3_set n3 n3 m6 hHeld)))
      clear hK K hHeld
      intro hHeld
      (try simp only [Act.put, sA, sB, sC])
      refine wpAnyH_done (by decide +kernel) ?_ _
      go_wp2_with fail
      refine wp_named3 (fun Y => HeapR B hb N kb pb (.slice (some ⟨g, 0, none⟩) os.length c) ks (ps.set xp.toNat ((p : Int) + 1)) (swO os p p) Y ∧ Below B w Y) ⟨?_, ?_⟩ ?_
      ·rw [HWP.out]; exact HX.out.setP _
      ·exact Bset HXB.out HPB.out
      rintro Y ⟨hY, hYB⟩
      obtain ⟨W2, hW2⟩ : ∃ W2, W2 = Y.drew := ⟨_, rfl⟩
      have HY := hU (hW2 ▸ hY.up (Bdrw (Below.refl _ _)) : HeapR B hb N kb pb (.slice (some ⟨g, 0, none⟩) os.length c) ks (ps.set xp.toNat ((p : Int) + 1)) (swO os p p) W2)
      have HYB := hU (hW2 ▸ Bdrw hYB : Below B w W2)
      clear h0 h1 h2 hf ip cp fp hY hYB hHeld
      obtain ⟨h0, h1, h2, hf⟩ := HY.out.h.c3
      have iq := (own_intL HY.out.o (k := p) (by rw [swO_len]; exact HPQ.out)).1
      rw [HL.out.2] at iq
      obtain ⟨cq, fq⟩ := bZ HY.out.p (k := xp.toNat) (by omega)
      refine wp_region_held_drew (S := (fun w' => w'.cell? ⟨hb, 1, none⟩ = some (.slice (some ⟨pb, 0, none⟩) N N) ∧ w'.cell? ⟨hb, 2, none⟩ = some (.slice (some ⟨g, 0, none⟩) os.length c) ∧ w'.cell? ⟨g, p, none⟩ = some (.int .i64 xp))) (by kernel_rfl) ?_ (fun hHeld => ?_)
      ·exact hW2 ▸ ⟨h1, h2, iq⟩
      rw [← hW2] at hHeld ⊢
      clear hW2
      refine tk 0 ?_
      (try simp only [Act.put, sA, sB, sC])
      refine tk 1 ?_
      (try simp only [Act.put, sA, sB, sC])
      refine tk 2 ?_
      (try simp only [Act.put, sA, sB, sC])
      refine tk 3 ?_
      (try simp only [Act.put, sA, sB, sC])
      refine tk 4 ?_
      (try simp only [Act.put, sA, sB, sC])
      refine tk 5 ?_
      (try simp only [Act.put, sA, sB, sC])
      refine tk 6 ?_
      (try simp only [Act.put, sA, sB, sC])
      refine tk 7 ?_
      (try simp only [Act.put, sA, sB, sC])
      refine tk 8 ?_
      (try simp only [Act.put, sA, sB, sC])
      refine tk 9 ?_
      (try simp only [Act.put, sA, sB, sC])
      refine tk 10 ?_
      (try simp only [Act.put, sA, sB, sC])
      refine tk 11 ?_
      (try simp only [Act.put, sA, sB, sC])
      refine tk 12 ?_
      (try simp only [Act.put, sA, sB, sC])
      refine tk 13 ?_
      (try simp only [Act.put, sA, sB, sC])
      refine wpAnyH_ready (rs := [14]) (by decide +kernel) (by simp) ?_
      refine consL rfl (fun K hK => ?_) ?_
      ·(first | fail | (go_simp; first | done | (first | fail)) | go_simp)
       (first | (with_reducible refine hK.out _ _ ?_ ?_) | (go_wp2_with fail; refine hK.out _ _ ?_ ?_))
       (focus ((first | with_reducible exact hHeld | with_reducible exact q3_set n3 n3 m6 hHeld)))
       clear hK K hHeld
       intro hHeld
       (try simp only [Act.put, sA, sB, sC])
       refine wpAnyH_done (by decide +kernel) ?_ _
       go_wp2_with fail
       go_end0
       exact ⟨rfl, by rw [HXP.out, HWQ.out]; exact HY.out.setP _, Bset HYB.out HPB.out⟩
      exact AllReadyH.nil
     exact AllReadyH.nil
    exact AllReadyH.nil
   exact AllReadyH.nil
  exact AllReadyH.nil
 exact AllReadyH.nil
set_option maxRecDepth 100000 in
set_option maxHeartbeats 4000000 in
theorem heap_swapN (p q : Nat) (hN : N ≤ 65536) (h : HP N ks ps os) (H : HeapR B hb N kb pb v ks ps os w) (hp : p < os.length) (hq : q < os.length) (hpq : p ≠ q) :
    Calls Tryz.prog 128 #[.pointer (some ⟨hb, 0, none⟩), .int .i64 p, .int .i64 q] w fun e w' => e = .returned (.tuple #[]) ∧ HeapR B hb N kb pb v ks (swP ps os p q) (swO os p q) w' ∧ Below B w w' := by
 obtain ⟨g, c, rfl, hc, hg⟩ := own_at H.o (by omega)
 have hp' : (p : Int) < (os.length : Int) := by omega
 have hq' : (q : Int) < (os.length : Int) := by omega
 have hqp : q ≠ p := fun e => hpq e.symm
 have hlen := h.le
 obtain ⟨n1, n2, n3, n4, n5, n6, n7⟩ := H.ne
 have m1 : g ≠ kb := by simpa [Value.ownBlock] using n4
 have m2 : g ≠ pb := by simpa [Value.ownBlock] using n5
 have m3 : g ≠ hb := by simpa [Value.ownBlock] using n6
 have m4 : hb ≠ g := m3.symm
 have m6 : pb ≠ g := m2.symm
 have HPQ := hU hp
 have HPQ2 := hU hq
 have HGB := hU hg
 have HPB := hU H.pB
 obtain ⟨a1, a2, _⟩ := h.a p _ (getD_some hp)
 obtain ⟨b1, b2, _⟩ := h.a q _ (getD_some hq)
 have HXO : Hid (swO os p q = (os.set p (os.getD q 0)).set q (os.getD p 0)) := hU rfl
 have HXP : Hid (swP ps os p q = (ps.set (os.getD q 0).toNat ((p : Int) + 1)).set (os.getD p 0).toNat ((q : Int) + 1)) := hU rfl
 obtain ⟨W, hW⟩ : ∃ W, W = w.drew := ⟨_, rfl⟩
 have HH := hU (hW ▸ H.up (Bdrw (Below.refl _ _)) : HeapR B hb N kb pb (.slice (some ⟨g, 0, none⟩) os.length c) ks ps os W)
 have HB := hU (hW ▸ Bdrw (Below.refl B w) : Below B w W)
 have HL := hU (swO_other hp hq)
 obtain ⟨h0, h1, h2, hf⟩ := HH.out.h.c3
 obtain ⟨ip, fp⟩ := bZ HH.out.o hp
 obtain ⟨iq, fq⟩ := bZ HH.out.o hq
 have HWP : Hid (IntKind.i64.wrap ((p : Int) + 1) = (p : Int) + 1) := hU (by rw [IntKind.wrap_i64]; omega)
 have HWQ : Hid (IntKind.i64.wrap ((q : Int) + 1) = (q : Int) + 1) := hU (by rw [IntKind.wrap_i64]; omega)
 clear h H hg n4 n5 n6 hp hq h0
 go_enter Tryz.func128, Tryz.ntmps128
 go_wp2_with fail
 refine wp_region_held_drew (S := (fun w' => w'.cell? ⟨hb, 2, none⟩ = some (.slice (some ⟨g, 0, none⟩) os.length c))) (by kernel_rfl) ?_ (fun hHeld => ?_)
 ·exact hW ▸ h2
 rw [← hW] at hHeld ⊢
 clear hW
 generalize os.getD p 0 = xp at *
 generalize os.getD q 0 = xq at *
 refine tk 0 ?_
 (try simp only [Act.put, sA, sB, sC])
 refine tk 1 ?_
 (try simp only [Act.put, sA, sB, sC])
 refine tk 2 ?_
 (try simp only [Act.put, sA, sB, sC])
 refine tk 3 ?_
 (try simp only [Act.put, sA, sB, sC])
 refine tk 4 ?_
 (try simp only [Act.put, sA, sB, sC])
 refine tk 5 ?_
 (try simp only [Act.put, sA, sB, sC])
 refine tk 6 ?_
 (try simp only [Act.put, sA, sB, sC])
 refine tk 7 ?_
 (try simp only [Act.put, sA, sB, sC])
 refine tk 8 ?_
 (try simp only [Act.put, sA, sB, sC])
 refine tk 9 ?_
 (try simp only [Act.put, sA, sB, sC])
 refine tk 10 ?_
 (try simp only [Act.put, sA, sB, sC])
 refine tk 11 ?_
 (try simp only [Act.put, sA, sB, sC])
 refine tk 12 ?_
 (try simp only [Act.put, sA, sB, sC])
 refine tk 13 ?_
 (try simp only [Act.put, sA, sB, sC])
 refine tk 14 ?_
 (try simp only [Act.put, sA, sB, sC])
 refine tk 15 ?_
 (try simp only [Act.put, sA, sB, sC])
 refine tk 17 ?_
 (try simp only [Act.put, sA, sB, sC])
 refine tk 18 ?_
 (try simp only [Act.put, sA, sB, sC])
 refine tk 19 ?_
 (try simp only [Act.put, sA, sB, sC])
 refine tk 20 ?_
 (try simp only [Act.put, sA, sB, sC])
 refine tk 21 ?_
 (try simp only [Act.put, sA, sB, sC])
 refine tk 22 ?_
 (try simp only [Act.put, sA, sB, sC])
 refine wpAnyH_ready (rs := [16, 23]) (by decide +kernel) (by simp) ?_
 refine consL rfl (fun K hK => ?_) ?_
 ·(first | fail | (go_simp; first | done | (first | fail)) | go_simp)
  (first | (with_reducible refine hK.out _ _ ?_ ?_) | (go_wp2_with fail; refine hK.out _ _ ?_ ?_))
  (focus ((first | with_reducible exact hHeld | with_reducible exact q1_set m3 hHeld)))
  clear hK K hHeld
  intro hHeld
  (try simp only [Act.put, sA, sB, sC])
  refine wpAnyH_ready (rs := [23]) (by decide +kernel) (by simp) ?_
  refine consL rfl (fun K hK => ?_) ?_
  ·(first | fail | (go_simp; first | done | (first | fail)) | go_simp)
   (first | (with_reducible refine hK.out _ _ ?_ ?_) | (go_wp2_with fail; refine hK.out _ _ ?_ ?_))
   (focus ((first | with_reducible exact hHeld | with_reducible exact q1_set m3 hHeld)))
   clear hK K hHeld
   intro hHeld
   (try simp only [Act.put, sA, sB, sC])
   refine tk 24 ?_
   (try simp only [Act.put, sA, sB, sC])
   refine wpAnyH_ready (rs := [25]) (by decide +kernel) (by simp) ?_
   refine consL rfl (fun K hK => ?_) ?_
   ·(first | fail | (go_simp; first | done | (first | fail)) | go_simp)
    (first | (with_reducible refine hK.out _ _ ?_ ?_) | (go_wp2_with fail; refine hK.out _ _ ?_ ?_))
    (focus ((first | with_reducible exact hHeld | with_reducible exact q1_set m3 hHeld)))
    clear hK K hHeld
    intro hHeld
    (try simp only [Act.put, sA, sB, sC])
    refine tk 26 ?_
    (try simp only [Act.put, sA, sB, sC])
    refine wpAnyH_ready (rs := [27]) (by decide +kernel) (by simp) ?_
    refine consL rfl (fun K hK => ?_) ?_
    ·(first | fail | (go_simp; first | done | (first | fail)) | go_simp)
     (first | (with_reducible refine hK.out _ _ ?_ ?_) | (go_wp2_with fail; refine hK.out _ _ ?_ ?_))
     (focus ((first | with_reducible exact hHeld | with_reducible exact q1_set m3 hHeld)))
     clear hK K hHeld
     intro hHeld
     (try simp only [Act.put, sA, sB, sC])
     refine wpAnyH_done (by decide +kernel) ?_ _
     go_wp2_with fail
     refine wp_named3 (fun X => HeapR B hb N kb pb (.slice (some ⟨g, 0, none⟩) os.length c) ks ps (swO os p q) X ∧ Below B w X) ⟨?_, ?_⟩ ?_
     ·rw [HXO.out]; exact (HH.out.setO xq).setO xp
     ·exact Bset (Bset HB.out HGB.out) HGB.out
     rintro X ⟨hX, hXB⟩
     obtain ⟨W1, hW1⟩ : ∃ W1, W1 = X.drew := ⟨_, rfl⟩
     have HX := hU (hW1 ▸ hX.up (Bdrw (Below.refl _ _)) : HeapR B hb N kb pb (.slice (some ⟨g, 0, none⟩) os.length c) ks ps (swO os p q) W1)
     have HXB := hU (hW1 ▸ Bdrw hXB : Below B w W1)
     clear h1 h2 hf ip fp iq fq hX hXB hHeld
     obtain ⟨h0, h1, h2, hf⟩ := HX.out.h.c3
     have ip := (own_intL HX.out.o (k := p) (by rw [swO_len]; exact HPQ.out)).1
     rw [HL.out.1] at ip
     obtain ⟨cp, fp⟩ := bZ HX.out.p (k := xq.toNat) (by omega)
     refine wp_region_held_drew (S := (fun w' => w'.cell? ⟨hb, 1, none⟩ = some (.slice (some ⟨pb, 0, none⟩) N N) ∧ w'.cell? ⟨hb, 2, none⟩ = some (.slice (some ⟨g, 0, none⟩) os.length c) ∧ w'.cell? ⟨g, p, none⟩ = some (.int .i64 xq))) (by kernel_rfl) ?_ (fun hHeld => ?_)
     ·exact hW1 ▸ ⟨h1, h2, ip⟩
     rw [← hW1] at hHeld ⊢
     clear hW1
     refine tk 0 ?_
     (try simp only [Act.put, sA, sB, sC])
     refine tk 1 ?_
     (try simp only [Act.put, sA, sB, sC])
     refine tk 2 ?_
     (try simp only [Act.put, sA, sB, sC])
     refine tk 3 ?_
     (try simp only [Act.put, sA, sB, sC])
     refine tk 4 ?_
     (try simp only [Act.put, sA, sB, sC])
     refine tk 5 ?_
     (try simp only [Act.put, sA, sB, sC])
     refine tk 6 ?_
     (try simp only [Act.put, sA, sB, sC])
     refine tk 7 ?_
     (try simp only [Act.put, sA, sB, sC])
     refine tk 8 ?_
     (try simp only [Act.put, sA, sB, sC])
     refine tk 9 ?_
     (try simp only [Act.put, sA, sB, sC])
     refine tk 10 ?_
     (try simp only [Act.put, sA, sB, sC])
     refine tk 11 ?_
     (try simp only [Act.put, sA, sB, sC])
     refine tk 12 ?_
     (try simp only [Act.put, sA, sB, sC])
     refine tk 13 ?_
     (try simp only [Act.put, sA, sB, sC])
     refine wpAnyH_ready (rs := [14]) (by decide +kernel) (by simp) ?_
     refine consL rfl (fun K hK => ?_) ?_
     ·(first | fail | (go_simp; first | done | (first | fail)) | go_simp)
      (first | (with_reducible refine hK.out _ _ ?_ ?_) | (go_wp2_with fail; refine hK.out _ _ ?_ ?_))
      (focus ((first | with_reducible exact hHeld | with_reducible exact q3_set n3 n3 m6 hHeld)))
      clear hK K hHeld
      intro hHeld
      (try simp only [Act.put, sA, sB, sC])
      refine wpAnyH_done (by decide +kernel) ?_ _
      go_wp2_with fail
      refine wp_named3 (fun Y => HeapR B hb N kb pb (.slice (some ⟨g, 0, none⟩) os.length c) ks (ps.set xq.toNat ((p : Int) + 1)) (swO os p q) Y ∧ Below B w Y) ⟨?_, ?_⟩ ?_
      ·rw [HWP.out]; exact HX.out.setP _
      ·exact Bset HXB.out HPB.out
      rintro Y ⟨hY, hYB⟩
      obtain ⟨W2, hW2⟩ : ∃ W2, W2 = Y.drew := ⟨_, rfl⟩
      have HY := hU (hW2 ▸ hY.up (Bdrw (Below.refl _ _)) : HeapR B hb N kb pb (.slice (some ⟨g, 0, none⟩) os.length c) ks (ps.set xq.toNat ((p : Int) + 1)) (swO os p q) W2)
      have HYB := hU (hW2 ▸ Bdrw hYB : Below B w W2)
      clear h0 h1 h2 hf ip cp fp hY hYB hHeld
      obtain ⟨h0, h1, h2, hf⟩ := HY.out.h.c3
      have iq := (own_intL HY.out.o (k := q) (by rw [swO_len]; exact HPQ2.out)).1
      rw [HL.out.2] at iq
      obtain ⟨cq, fq⟩ := bZ HY.out.p (k := xp.toNat) (by omega)
      refine wp_region_held_drew (S := (fun w' => w'.cell? ⟨hb, 1, none⟩ = some (.slice (some ⟨pb, 0, none⟩) N N) ∧ w'.cell? ⟨hb, 2, none⟩ = some (.slice (some ⟨g, 0, none⟩) os.length c) ∧ w'.cell? ⟨g, q, none⟩ = some (.int .i64 xp))) (by kernel_rfl) ?_ (fun hHeld => ?_)
      ·exact hW2 ▸ ⟨h1, h2, iq⟩
      rw [← hW2] at hHeld ⊢
      clear hW2
      refine tk 0 ?_
      (try simp only [Act.put, sA, sB, sC])
      refine tk 1 ?_
      (try simp only [Act.put, sA, sB, sC])
      refine tk 2 ?_
      (try simp only [Act.put, sA, sB, sC])
      refine tk 3 ?_
      (try simp only [Act.put, sA, sB, sC])
      refine tk 4 ?_
      (try simp only [Act.put, sA, sB, sC])
      refine tk 5 ?_
      (try simp only [Act.put, sA, sB, sC])
      refine tk 6 ?_
      (try simp only [Act.put, sA, sB, sC])
      refine tk 7 ?_
      (try simp only [Act.put, sA, sB, sC])
      refine tk 8 ?_
      (try simp only [Act.put, sA, sB, sC])
      refine tk 9 ?_
      (try simp only [Act.put, sA, sB, sC])
      refine tk 10 ?_
      (try simp only [Act.put, sA, sB, sC])
      refine tk 11 ?_
      (try simp only [Act.put, sA, sB, sC])
      refine tk 12 ?_
      (try simp only [Act.put, sA, sB, sC])
      refine tk 13 ?_
      (try simp only [Act.put, sA, sB, sC])
      refine wpAnyH_ready (rs := [14]) (by decide +kernel) (by simp) ?_
      refine consL rfl (fun K hK => ?_) ?_
      ·(first | fail | (go_simp; first | done | (first | fail)) | go_simp)
       (first | (with_reducible refine hK.out _ _ ?_ ?_) | (go_wp2_with fail; refine hK.out _ _ ?_ ?_))
       (focus ((first | with_reducible exact hHeld | with_reducible exact q3_set n3 n3 m6 hHeld)))
       clear hK K hHeld
       intro hHeld
       (try simp only [Act.put, sA, sB, sC])
       refine wpAnyH_done (by decide +kernel) ?_ _
       go_wp2_with fail
       go_end0
       exact ⟨rfl, by rw [HXP.out, HWQ.out]; exact HY.out.setP _, Bset HYB.out HPB.out⟩
      exact AllReadyH.nil
     exact AllReadyH.nil
    exact AllReadyH.nil
   exact AllReadyH.nil
  exact AllReadyH.nil
 refine consL rfl (fun K hK => ?_) ?_
 ·(first | fail | (go_simp; first | done | (first | fail)) | go_simp)
  (first | (with_reducible refine hK.out _ _ ?_ ?_) | (go_wp2_with fail; refine hK.out _ _ ?_ ?_))
  (focus ((first | with_reducible exact hHeld | with_reducible exact q1_set m3 hHeld)))
  clear hK K hHeld
  intro hHeld
  (try simp only [Act.put, sA, sB, sC])
  refine wpAnyH_ready (rs := [16]) (by decide +kernel) (by simp) ?_
  refine consL rfl (fun K hK => ?_) ?_
  ·(first | fail | (go_simp; first | done | (first | fail)) | go_simp)
   (first | (with_reducible refine hK.out _ _ ?_ ?_) | (go_wp2_with fail; refine hK.out _ _ ?_ ?_))
   (focus ((first | with_reducible exact hHeld | with_reducible exact q1_set m3 hHeld)))
   clear hK K hHeld
   intro hHeld
   (try simp only [Act.put, sA, sB, sC])
   refine tk 24 ?_
   (try simp only [Act.put, sA, sB, sC])
   refine wpAnyH_ready (rs := [25]) (by decide +kernel) (by simp) ?_
   refine consL rfl (fun K hK => ?_) ?_
   ·(first | fail | (go_simp; first | done | (first | fail)) | go_simp)
    (first | (with_reducible refine hK.out _ _ ?_ ?_) | (go_wp2_with fail; refine hK.out _ _ ?_ ?_))
    (focus ((first | with_reducible exact hHeld | with_reducible exact q1_set m3 hHeld)))
    clear hK K hHeld
    intro hHeld
    (try simp only [Act.put, sA, sB, sC])
    refine tk 26 ?_
    (try simp only [Act.put, sA, sB, sC])
    refine wpAnyH_ready (rs := [27]) (by decide +kernel) (by simp) ?_
    refine consL rfl (fun K hK => ?_) ?_
    ·(first | fail | (go_simp; first | done | (first | fail)) | go_simp)
     (first | (with_reducible refine hK.out _ _ ?_ ?_) | (go_wp2_with fail; refine hK.out _ _ ?_ ?_))
     (focus ((first | with_reducible exact hHeld | with_reducible exact q1_set m3 hHeld)))
     clear hK K hHeld
     intro hHeld
     (try simp only [Act.put, sA, sB, sC])
     refine wpAnyH_done (by decide +kernel) ?_ _
     go_wp2_with fail
     refine wp_named3 (fun X => HeapR B hb N kb pb (.slice (some ⟨g, 0, none⟩) os.length c) ks ps (swO os p q) X ∧ Below B w X) ⟨?_, ?_⟩ ?_
     ·rw [HXO.out]; exact (HH.out.setO xq).setO xp
     ·exact Bset (Bset HB.out HGB.out) HGB.out
     rintro X ⟨hX, hXB⟩
     obtain ⟨W1, hW1⟩ : ∃ W1, W1 = X.drew := ⟨_, rfl⟩
     have HX := hU (hW1 ▸ hX.up (Bdrw (Below.refl _ _)) : HeapR B hb N kb pb (.slice (some ⟨g, 0, none⟩) os.length c) ks ps (swO os p q) W1)
     have HXB := hU (hW1 ▸ Bdrw hXB : Below B w W1)
     clear h1 h2 hf ip fp iq fq hX hXB hHeld
     obtain ⟨h0, h1, h2, hf⟩ := HX.out.h.c3
     have ip := (own_intL HX.out.o (k := p) (by rw [swO_len]; exact HPQ.out)).1
     rw [HL.out.1] at ip
     obtain ⟨cp, fp⟩ := bZ HX.out.p (k := xq.toNat) (by omega)
     refine wp_region_held_drew (S := (fun w' => w'.cell? ⟨hb, 1, none⟩ = some (.slice (some ⟨pb, 0, none⟩) N N) ∧ w'.cell? ⟨hb, 2, none⟩ = some (.slice (some ⟨g, 0, none⟩) os.length c) ∧ w'.cell? ⟨g, p, none⟩ = some (.int .i64 xq))) (by kernel_rfl) ?_ (fun hHeld => ?_)
     ·exact hW1 ▸ ⟨h1, h2, ip⟩
     rw [← hW1] at hHeld ⊢
     clear hW1
     refine tk 0 ?_
     (try simp only [Act.put, sA, sB, sC])
     refine tk 1 ?_
     (try simp only [Act.put, sA, sB, sC])
     refine tk 2 ?_
     (try simp only [Act.put, sA, sB, sC])
     refine tk 3 ?_
     (try simp only [Act.put, sA, sB, sC])
     refine tk 4 ?_
     (try simp only [Act.put, sA, sB, sC])
     refine tk 5 ?_
     (try simp only [Act.put, sA, sB, sC])
     refine tk 6 ?_
     (try simp only [Act.put, sA, sB, sC])
     refine tk 7 ?_
     (try simp only [Act.put, sA, sB, sC])
     refine tk 8 ?_
     (try simp only [Act.put, sA, sB, sC])
     refine tk 9 ?_
     (try simp only [Act.put, sA, sB, sC])
     refine tk 10 ?_
     (try simp only [Act.put, sA, sB, sC])
     refine tk 11 ?_
     (try simp only [Act.put, sA, sB, sC])
     refine tk 12 ?_
     (try simp only [Act.put, sA, sB, sC])
     refine tk 13 ?_
     (try simp only [Act.put, sA, sB, sC])
     refine wpAnyH_ready (rs := [14]) (by decide +kernel) (by simp) ?_
     refine consL rfl (fun K hK => ?_) ?_
     ·(first | fail | (go_simp; first | done | (first | fail)) | go_simp)
      (first | (with_reducible refine hK.out _ _ ?_ ?_) | (go_wp2_with fail; refine hK.out _ _ ?_ ?_))
      (focus ((first | with_reducible exact hHeld | with_reducible exact q3_set n3 n3 m6 hHeld)))
      clear hK K hHeld
      intro hHeld
      (try simp only [Act.put, sA, sB, sC])
      refine wpAnyH_done (by decide +kernel) ?_ _
      go_wp2_with fail
      refine wp_named3 (fun Y => HeapR B hb N kb pb (.slice (some ⟨g, 0, none⟩) os.length c) ks (ps.set xq.toNat ((p : Int) + 1)) (swO os p q) Y ∧ Below B w Y) ⟨?_, ?_⟩ ?_
      ·rw [HWP.out]; exact HX.out.setP _
      ·exact Bset HXB.out HPB.out
      rintro Y ⟨hY, hYB⟩
      obtain ⟨W2, hW2⟩ : ∃ W2, W2 = Y.drew := ⟨_, rfl⟩
      have HY := hU (hW2 ▸ hY.up (Bdrw (Below.refl _ _)) : HeapR B hb N kb pb (.slice (some ⟨g, 0, none⟩) os.length c) ks (ps.set xq.toNat ((p : Int) + 1)) (swO os p q) W2)
      have HYB := hU (hW2 ▸ Bdrw hYB : Below B w W2)
      clear h0 h1 h2 hf ip cp fp hY hYB hHeld
      obtain ⟨h0, h1, h2, hf⟩ := HY.out.h.c3
      have iq := (own_intL HY.out.o (k := q) (by rw [swO_len]; exact HPQ2.out)).1
      rw [HL.out.2] at iq
      obtain ⟨cq, fq⟩ := bZ HY.out.p (k := xp.toNat) (by omega)
      refine wp_region_held_drew (S := (fun w' => w'.cell? ⟨hb, 1, none⟩ = some (.slice (some ⟨pb, 0, none⟩) N N) ∧ w'.cell? ⟨hb, 2, none⟩ = some (.slice (some ⟨g, 0, none⟩) os.length c) ∧ w'.cell? ⟨g, q, none⟩ = some (.int .i64 xp))) (by kernel_rfl) ?_ (fun hHeld => ?_)
      ·exact hW2 ▸ ⟨h1, h2, iq⟩
      rw [← hW2] at hHeld ⊢
      clear hW2
      refine tk 0 ?_
      (try simp only [Act.put, sA, sB, sC])
      refine tk 1 ?_
      (try simp only [Act.put, sA, sB, sC])
      refine tk 2 ?_
      (try simp only [Act.put, sA, sB, sC])
      refine tk 3 ?_
      (try simp only [Act.put, sA, sB, sC])
      refine tk 4 ?_
      (try simp only [Act.put, sA, sB, sC])
      refine tk 5 ?_
      (try simp only [Act.put, sA, sB, sC])
      refine tk 6 ?_
      (try simp only [Act.put, sA, sB, sC])
      refine tk 7 ?_
      (try simp only [Act.put, sA, sB, sC])
      refine tk 8 ?_
      (try simp only [Act.put, sA, sB, sC])
      refine tk 9 ?_
      (try simp only [Act.put, sA, sB, sC])
      refine tk 10 ?_
      (try simp only [Act.put, sA, sB, sC])
      refine tk 11 ?_
      (try simp only [Act.put, sA, sB, sC])
      refine tk 12 ?_
      (try simp only [Act.put, sA, sB, sC])
      refine tk 13 ?_
      (try simp only [Act.put, sA, sB, sC])
      refine wpAnyH_ready (rs := [14]) (by decide +kernel) (by simp) ?_
      refine consL rfl (fun K hK => ?_) ?_
      ·(first | fail | (go_simp; first | done | (first | fail)) | go_simp)
       (first | (with_reducible refine hK.out _ _ ?_ ?_) | (go_wp2_with fail; refine hK.out _ _ ?_ ?_))
       (focus ((first | with_reducible exact hHeld | with_reducible exact q3_set n3 n3 m6 hHeld)))
       clear hK K hHeld
       intro hHeld
       (try simp only [Act.put, sA, sB, sC])
       refine wpAnyH_done (by decide +kernel) ?_ _
       go_wp2_with fail
       go_end0
       exact ⟨rfl, by rw [HXP.out, HWQ.out]; exact HY.out.setP _, Bset HYB.out HPB.out⟩
      exact AllReadyH.nil
     exact AllReadyH.nil
    exact AllReadyH.nil
   exact AllReadyH.nil
  exact AllReadyH.nil
 exact AllReadyH.nil
theorem heap_swap (p q : Nat) (hN : N ≤ 65536) (h : HP N ks ps os) (H : HeapR B hb N kb pb v ks ps os w) (hp : p < os.length) (hq : q < os.length) :
    Calls Tryz.prog 128 #[.pointer (some ⟨hb, 0, none⟩), .int .i64 p, .int .i64 q] w fun e w' => e = .returned (.tuple #[]) ∧ HeapR B hb N kb pb v ks (swP ps os p q) (swO os p q) w' ∧ Below B w w' := by
 by_cases e : p = q
 ·subst e; exact heap_swapE p hN h H hp
 ·exact heap_swapN p q hN h H hp hq e
end
end
end Go.Proofs.YtdnjflpmbnjgeaaGreat
