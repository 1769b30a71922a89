/-
  An indexed queue in memory: settle.
  An indexed queue in memory: take (printed by gen_heapu.py).
  An indexed queue in memory: Set, Key, Pop (printed by gen_heapv.py).
-/
import Derived.Test.YtdnjflpmbnjgeaaGreatHeapS
import Derived.Deep.CutRange
import Derived.Deep.DeepCutAuto
import Derived.Deep.AppendLies
set_option linter.unusedSimpArgs false
set_option linter.unusedVariables false
namespace Go.Proofs.YtdnjflpmbnjgeaaGreat
section
open Go.RowKit Go.Sort
section
variable {B hb N kb pb : Nat} {v : Value} {ks ps os : List Int} {w : World}
/-- What settle and its kin keep. -/
structure HK (B hb N kb pb : Nat) (v : Value) (ks os : List Int) (w : World) (ps' os' : List Int) (w' : World) : Prop where
 p : HP N ks ps' os'
 r : HeapR B hb N kb pb v ks ps' os' w'
 m : os'.Perm os
 b : Below B w w'
theorem HK.len {ps' os' : List Int} {w' : World} (h : HK B hb N kb pb v ks os w ps' os' w') : os'.length = os.length := h.m.length_eq
theorem HK.up {ps' os' : List Int} {w1 w2 : World} (h : HK B hb N kb pb v ks os w ps' os' w1) (hb' : Below w1.heap.size w1 w2) : HK B hb N kb pb v ks os w ps' os' w2 :=
 ⟨h.p, h.r.up hb', h.m, h.b.trans (hb'.mono (Nat.le_trans h.r.ne.2.2.2.2.2.2 (Nat.le_of_lt h.r.h.lt)))⟩
theorem HK.swap {ps' os' : List Int} {w1 w2 : World} {p q : Nat} (h : HK B hb N kb pb v ks os w ps' os' w1) (hp : p < os.length) (hq : q < os.length) (hr : HeapR B hb N kb pb v ks (swP ps' os' p q) (swO os' p q) w2) (hb' : Below B w1 w2) : HK B hb N kb pb v ks os w (swP ps' os' p q) (swO os' p q) w2 :=
 ⟨h.p.swap (by rw [h.len]; exact hp) (by rw [h.len]; exact hq), hr, (swO_perm (by rw [h.len]; exact hp) (by rw [h.len]; exact hq)).trans h.m, h.b.trans hb'⟩
set_option maxRecDepth 100000 in
set_option maxHeartbeats 4000000 in
theorem heap_settle (p : Nat) (hN : N ≤ 65536) (h : HP N ks ps os) (H : HeapR B hb N kb pb v ks ps os w) (hp : p < os.length) :
    Calls Tryz.prog 124 #[.pointer (some ⟨hb, 0, none⟩), .int .i64 p] w fun e w' => e = .returned (.tuple #[]) ∧ ∃ ps' os', HK B hb N kb pb v ks os w ps' os' w' := by
 obtain ⟨g, c, rfl, _, _⟩ := own_at H.o (by omega)
 have HI := hU (HK.mk h H (List.Perm.refl _) (Below.refl B w) : HK B hb N kb pb (.slice (some ⟨g, 0, none⟩) os.length c) ks os w ps os w)
 have hle := h.le
 clear h H
 go_enter Tryz.func124, Tryz.ntmps124
 go_upto_block 0 with fail
 go_cut [1] from 6 to 24 (fun i wx => ∃ (k : Nat) (ps' os' : List Int), i = .int .i64 k ∧ k < os.length ∧ Hid (HK B hb N kb pb (.slice (some ⟨g, 0, none⟩) os.length c) ks os w ps' os' wx))
 case first =>
  go_wp2_with fail
  go_loopw [1] (fun i wr => ∃ (k : Nat) (ps' os' : List Int), i = .int .i64 k ∧ k < os.length ∧ Hid (HK B hb N kb pb (.slice (some ⟨g, 0, none⟩) os.length c) ks os w ps' os' wr)) (fun i _ => (intOf i).toNat)
  case atStart => exact ⟨p, ps, os, rfl, hp, HI⟩
  case round =>
   clear HI hp
   obtain ⟨k, ps', os', rfl, hk, HI⟩ := hrel
   by_cases h0 : k = 0
   ·subst h0
    go_wp2_with fail
    go_meet
    exact ⟨0, ps', os', rfl, hk, HI⟩
   ·have hkp : (0 : Int) < (k : Int) := by omega
    have hq1 : ((k : Int) - 1).tdiv 2 = (((k - 1) / 2 : Nat) : Int) := by
     rw [show (k : Int) - 1 = ((k - 1 : Nat) : Int) by omega]; exact (Int.ofNat_tdiv (k - 1) 2).symm
    have hq2 : ((k : Int) - 1) / 2 = (((k - 1) / 2 : Nat) : Int) := by omega
    have hk2 : (k - 1) / 2 < k := by omega
    have HBE := hU (heap_before k ((k - 1) / 2) hN HI.out.p HI.out.r (by rw [HI.out.len]; exact hk) (by rw [HI.out.len]; omega))
    have HSW := hU (fun W (hW : HeapR B hb N kb pb (.slice (some ⟨g, 0, none⟩) os.length c) ks ps' os' W) => heap_swap k ((k - 1) / 2) hN HI.out.p hW (by rw [HI.out.len]; exact hk) (by rw [HI.out.len]; omega))
    cases hbf : bef ks os' k ((k - 1) / 2) with
    | false =>
     go_wp2_with (go_at_call 127; (try simp only [hq2]); refine HBE.out.mono ?_; rw [hbf]; rintro e w3 ⟨rfl, hb3⟩; replace HI := hU (HI.out.up hb3); clear hb3)
     go_meet
     exact ⟨k, ps', os', rfl, hk, HI⟩
    | true =>
     go_wp2_with (first | (go_at_call 127; (try simp only [hq2]); refine HBE.out.mono ?_; rw [hbf]; rintro e w3 ⟨rfl, hb3⟩; replace HI := hU (HI.out.up hb3); clear hb3) | (go_at_call 128; (try simp only [hq2]); refine (HSW.out _ HI.out.r).mono ?_; rintro e w4 ⟨rfl, hr4, hb4⟩; have HI4 := hU (HI.out.swap hk (by omega) hr4 hb4); clear hr4 hb4))
     go_roundw
     case rel => exact ⟨(k - 1) / 2, _, _, by go_num, by omega, HI4⟩
     case measure => simp [intOf]; omega
 case rest =>
  clear HI hp
  obtain ⟨k, ps', os', rfl, hk, HI⟩ := hcut
  go_wp2_with fail
  go_loopw [1] (fun i wr => ∃ (k : Nat) (ps' os' : List Int), i = .int .i64 k ∧ k < os.length ∧ Hid (HK B hb N kb pb (.slice (some ⟨g, 0, none⟩) os.length c) ks os w ps' os' wr)) (fun i _ => os.length - (intOf i).toNat)
  case atStart => exact ⟨k, ps', os', rfl, hk, HI⟩
  case round =>
   clear HI hk
   obtain ⟨k, ps', os', rfl, hk, HI⟩ := hrel
   have hk1 : (k : Int) ≤ 65536 := by omega
   go_upto_block 4 with fail
   go_cut [4, 5] from 25 to 57 (fun l _ wx => ∃ j : Nat, l = .int .i64 j ∧ k ≤ j ∧ j < os.length ∧ Hid (HK B hb N kb pb (.slice (some ⟨g, 0, none⟩) os.length c) ks os w ps' os' wx))
   case first =>
    go_wp2_with fail
    go_loopw [4, 5] (fun l i wr => ∃ (j m : Nat), l = .int .i64 j ∧ i = .int .i64 m ∧ k ≤ j ∧ j < os.length ∧ k < m ∧ m ≤ 2 * k + 3 ∧ Hid (HK B hb N kb pb (.slice (some ⟨g, 0, none⟩) os.length c) ks os w ps' os' wr)) (fun _ i _ => 2 * k + 3 - (intOf i).toNat)
    case atStart => exact ⟨k, 2 * k + 1, rfl, by go_num, by omega, hk, by omega, by omega, HI⟩
    case round =>
     clear HI
     obtain ⟨j, m, rfl, rfl, hj1, hj2, hm1, hm2, HI⟩ := hrel
     by_cases c1 : m ≤ 2 * k + 2
     ·have c1' : (m : Int) ≤ 2 * (k : Int) + 2 := by omega
      obtain ⟨h0, h1, h2, hf⟩ := HI.out.r.h.c3
      clear h0 h1 hf
      by_cases c2 : m < os.length
      ·have c2' : (m : Int) < (os.length : Int) := by omega
       have HBE := hU (heap_before m j hN HI.out.p HI.out.r (by rw [HI.out.len]; exact c2) (by rw [HI.out.len]; omega))
       cases hbf : bef ks os' m j with
       | false =>
        go_wp2_with (go_at_call 127; refine HBE.out.mono ?_; rw [hbf]; rintro e w3 ⟨rfl, hb3⟩; replace HI := hU (HI.out.up hb3); clear hb3 h2)
        go_roundw
        case rel => exact ⟨j, m + 1, rfl, by go_num, by omega, by omega, by omega, by omega, HI⟩
        case measure => simp [intOf]; omega
       | true =>
        go_wp2_with (go_at_call 127; refine HBE.out.mono ?_; rw [hbf]; rintro e w3 ⟨rfl, hb3⟩; replace HI := hU (HI.out.up hb3); clear hb3 h2)
        go_roundw
        case rel => exact ⟨m, m + 1, rfl, by go_num, by omega, by omega, by omega, by omega, HI⟩
        case measure => simp [intOf]; omega
      ·have c2' : ¬ (m : Int) < (os.length : Int) := by omega
       go_wp2_with fail
       go_meet
       exact ⟨j, rfl, hj1, hj2, HI⟩
     ·have c1' : ¬ (m : Int) ≤ 2 * (k : Int) + 2 := by omega
      go_wp2_with fail
      go_meet
      exact ⟨j, rfl, hj1, hj2, HI⟩
   case rest =>
    clear HI
    obtain ⟨j, rfl, hj1, hj2, HI⟩ := hcut
    by_cases e : j = k
    ·subst e
     go_wp2_with fail
     exact bodyPost_ret (v := .tuple #[]) (by simp [results, Tryz.results124, go_sem]) rfl ⟨rfl, _, _, HI.out⟩
    ·have hne : ((j : Int) == (k : Int)) = false := by simp; omega
     have HSW := hU (fun W (hW : HeapR B hb N kb pb (.slice (some ⟨g, 0, none⟩) os.length c) ks ps' os' W) => heap_swap k j hN HI.out.p hW (by rw [HI.out.len]; exact hk) (by rw [HI.out.len]; omega))
     go_wp2_with (go_at_call 128; refine (HSW.out _ HI.out.r).mono ?_; rintro e w4 ⟨rfl, hr4, hb4⟩; have HI4 := hU (HI.out.swap hk hj2 hr4 hb4); clear hr4 hb4)
     go_roundw
     case rel => exact ⟨j, _, _, rfl, hj2, HI4⟩
     case measure => simp [intOf]; omega
end
theorem own_cut {w : World} {base g n m c : Nat} {E : TypeId} {xs : List Value} (h : w.ownsRow base E 1 (.slice (some ⟨g, 0, none⟩) n c) n xs) (hm : m ≤ n) : w.ownsRow base E 1 (.slice (some ⟨g, 0, none⟩) m c) m (xs.take m) := by
 obtain ⟨hl, ⟨h0, h1⟩ | ⟨g', cap, cur, h0, hb, hg, hnc, hcm, hs, ht⟩⟩ := h
 ·cases h0
 ·injection h0 with e1 e2 e3
  injection e1 with e1
  injection e1 with e1
  subst e1 e3
  refine ⟨by rw [List.length_take]; omega, .inr ⟨g, c, cur, rfl, hb, hg, by omega, hcm, hs, ?_⟩⟩
  rw [← ht, List.take_take]
  congr 1
  omega
theorem take_last {os : List Int} {p last : Nat} (hl : os.length = last + 1) (hp : p < os.length) : swO os p last = (swO os p last).take last ++ [os.getD p 0] := by
 have h1 : (swO os p last)[last]? = some (os.getD p 0) := by rw [swO_get hp (by omega), if_pos rfl]
 have h2 : (swO os p last).length = last + 1 := by rw [swO_len, hl]
 conv => lhs; rw [← List.take_append_drop last (swO os p last)]
 congr 1
 refine List.ext_getElem? fun j => ?_
 rw [List.getElem?_drop]
 cases j with
 | zero => simpa using h1
 | succ j => rw [List.getElem?_eq_none (by omega), List.getElem?_eq_none (by simp)]
section
variable {B hb N kb pb : Nat} {v : Value} {ks ps os : List Int} {w : World}
/-- The last place is cut off. -/
theorem HeapR.cut {g c m n : Nat} (h : HeapR B hb N kb pb (.slice (some ⟨g, 0, none⟩) n c) ks ps os w) (hm : m ≤ n) : HeapR B hb N kb pb (.slice (some ⟨g, 0, none⟩) m c) ks ps (os.take m) (w.setCell ⟨hb, 2, none⟩ (.slice (some ⟨g, 0, none⟩) m c)) := by
 have ho := h.o
 have hn := own_len ho
 subst hn
 obtain ⟨n1, n2, n3, n4, n5, n6, n7⟩ := h.ne
 have m3 : g ≠ hb := by simpa [Value.ownBlock] using n6
 refine ⟨h.h.set 2 _ rfl, jZ h.k (by simpa [Value.ownBlock] using n2) _, jZ h.p (by simpa [Value.ownBlock] using n3) _, ?_, n1, n2, n3, n4, n5, n6, n7⟩
 have h2 := jZ (j := 2) (own_cut ho hm) (show (Value.slice (some ⟨g, 0, none⟩) m c).ownBlock ≠ some hb by simpa [Value.ownBlock] using m3) (.slice (some ⟨g, 0, none⟩) m c)
 rw [← List.map_take] at h2
 rw [List.length_take, Nat.min_eq_left hm]
 exact h2
/-- What taking out the item i leaves. -/
structure HT (B hb N kb pb : Nat) (v : Value) (ks os : List Int) (i : Int) (w : World) (ps' os' : List Int) (v' : Value) (w' : World) : Prop where
 p : HP N (ks.set i.toNat 0) ps' os'
 r : HeapR B hb N kb pb v' (ks.set i.toNat 0) ps' os' w'
 m : (i :: os').Perm os
 b : Below B w w'
set_option maxRecDepth 100000 in
set_option maxHeartbeats 4000000 in
theorem heap_take (p : Nat) (hN : N ≤ 65536) (h : HP N ks ps os) (H : HeapR B hb N kb pb v ks ps os w) (hp : p < os.length) :
    Calls Tryz.prog 125 #[.pointer (some ⟨hb, 0, none⟩), .int .i64 p] w fun e w' => e = .returned (.tuple #[]) ∧ ∃ ps' os' v', HT B hb N kb pb v ks os (os.getD p 0) w ps' os' v' w' := by
 obtain ⟨g, c, rfl, hgc, hg⟩ := own_at H.o (by omega)
 obtain ⟨last, hl⟩ : ∃ last, os.length = last + 1 := ⟨os.length - 1, by omega⟩
 have hle := h.le
 have ip := (bZ H.o hp).1
 have ap := h.a p _ (getD_some hp)
 have HSW := hU (heap_swap p last hN h H hp (by omega))
 have HPS := hU (h.swap hp (show last < os.length by omega))
 have HTL := hU (take_last hl hp)
 have HPM := hU (swO_perm hp (show last < os.length by omega))
 have HNE := hU H.ne
 have HL := hU hl
 have HH := hU H
 obtain ⟨h0, h1, h2, hf⟩ := H.h.c3
 have hpl : (p : Int) < (last : Int) + 1 := by omega
 have hl65 : (last : Int) < 65536 := by omega
 have hcl : (last : Int) ≤ (c : Int) := by omega
 have HGC := hU hgc
 have HPB := hU H.pB
 have HKB := hU H.kB
 obtain ⟨xp, hxp⟩ : ∃ x, x = os.getD p 0 := ⟨_, rfl⟩
 rw [← hxp] at ip ap HTL ⊢
 obtain ⟨a1, a2, _⟩ := ap
 have HXP := hU hxp
 rw [hl] at h2
 clear h H hg hxp hl h0 h1 hp hgc
 go_enter Tryz.func125, Tryz.ntmps125
 go_upto_region 1 with fail
 go_upto_region 2 with fail
 go_upto_region 3 with (go_at_call 128; refine HSW.out.mono ?_; rintro e w3 ⟨rfl, hr3, hb3⟩; have HR3 := hU hr3; have HB3 := hU hb3; clear hr3 hb3 h2 hf ip; obtain ⟨h0, h1, h2, hf⟩ := HR3.out.h.c3; rw [HL.out] at h2)
 go_upto_region 4 with fail
 refine wp_named3 (fun X => HeapR B hb N kb pb (.slice (some ⟨g, 0, none⟩) last c) ks (swP ps os p last) ((swO os p last).take last) X ∧ Below B w X) ⟨?_, ?_⟩ ?_
 ·exact HR3.out.cut (by have := HL.out; omega)
 ·exact Bset HB3.out HNE.out.2.2.2.2.2.2
 rintro X ⟨hX, hXB⟩
 obtain ⟨W1, hW1⟩ : ∃ W1, W1 = X.drew := ⟨_, rfl⟩
 have HX := hU (hW1 ▸ hX.up (Bdrw (Below.refl _ _)) : HeapR B hb N kb pb (.slice (some ⟨g, 0, none⟩) last c) ks (swP ps os p last) ((swO os p last).take last) W1)
 have HXB := hU (hW1 ▸ Bdrw hXB : Below B w W1)
 clear h0 h1 h2 hf hX hXB
 obtain ⟨h0, h1, h2, hf⟩ := HX.out.h.c3
 obtain ⟨cp, fp⟩ := bZ HX.out.p (k := xp.toNat) (by omega)
 obtain ⟨ck, fk⟩ := bZ HX.out.k (k := xp.toNat) (by omega)
 obtain ⟨n1, n2, n3, _, _, _, n7⟩ := HNE.out
 have n8 := n1.symm
 refine wp_region_held_drew (S := (fun w' => w'.cell? ⟨hb, 0, none⟩ = some (.slice (some ⟨kb, 0, none⟩) N N) ∧ w'.cell? ⟨hb, 1, none⟩ = some (.slice (some ⟨pb, 0, none⟩) N N))) (by kernel_rfl) ?_ (fun hHeld => ?_)
 ·exact hW1 ▸ ⟨h0, h1⟩
 rw [← hW1] at hHeld ⊢
 clear hW1
 refine tk 0 ?_
 (try simp only [Act.put, sA, sB, sC])
 refine tk 1 ?_
 (try simp only [Act.put, sA, sB, sC])
 refine tk 2 ?_
 (try simp only [Act.put, sA, sB, sC])
 refine tk 3 ?_
 (try simp only [Act.put, sA, sB, sC])
 refine tk 4 ?_
 (try simp only [Act.put, sA, sB, sC])
 refine tk 5 ?_
 (try simp only [Act.put, sA, sB, sC])
 refine tk 6 ?_
 (try simp only [Act.put, sA, sB, sC])
 refine tk 7 ?_
 (try simp only [Act.put, sA, sB, sC])
 refine tk 8 ?_
 (try simp only [Act.put, sA, sB, sC])
 refine tk 9 ?_
 (try simp only [Act.put, sA, sB, sC])
 refine tk 10 ?_
 (try simp only [Act.put, sA, sB, sC])
 refine wpAnyH_ready (rs := [11]) (by decide +kernel) (by simp) ?_
 refine consL rfl (fun K hK => ?_) ?_
 ·(first | fail | (go_simp; first | done | (first | fail)) | go_simp)
  (first | (with_reducible refine hK.out _ _ ?_ ?_) | (go_wp2_with fail; refine hK.out _ _ ?_ ?_))
  (focus ((first | with_reducible exact hHeld | with_reducible exact q2_set n3 n3 hHeld | with_reducible exact q2_set n2 n2 hHeld | with_reducible exact q2_set n2 n2 (q2_set n3 n3 hHeld))))
  clear hK K hHeld
  intro hHeld
  (try simp only [Act.put, sA, sB, sC])
  refine tk 12 ?_
  (try simp only [Act.put, sA, sB, sC])
  refine wpAnyH_ready (rs := [13]) (by decide +kernel) (by simp) ?_
  refine consL rfl (fun K hK => ?_) ?_
  ·(first | fail | (go_simp; first | done | (first | fail)) | go_simp)
   (first | (with_reducible refine hK.out _ _ ?_ ?_) | (go_wp2_with fail; refine hK.out _ _ ?_ ?_))
   (focus ((first | with_reducible exact hHeld | with_reducible exact q2_set n3 n3 hHeld | with_reducible exact q2_set n2 n2 hHeld | with_reducible exact q2_set n2 n2 (q2_set n3 n3 hHeld))))
   clear hK K hHeld
   intro hHeld
   (try simp only [Act.put, sA, sB, sC])
   refine wpAnyH_done (by decide +kernel) ?_ _
   go_upto_region 5 with fail
   refine wp_named3 (fun Y => HT B hb N kb pb (.slice (some ⟨g, 0, none⟩) os.length c) ks os xp w ((swP ps os p last).set xp.toNat 0) ((swO os p last).take last) (.slice (some ⟨g, 0, none⟩) last c) Y) ?_ ?_
   ·refine ⟨?_, (HX.out.setP _).setK _, ?_, Bset (Bset HXB.out HPB.out) HKB.out⟩
    ·have := HPS.out
     rw [HTL.out] at this
     exact this.drop
    ·refine (List.perm_append_comm (l₁ := [xp])).trans ?_
     rw [← HTL.out]
     exact HPM.out
   rintro Y hY
   have HY := hU hY
   have HYL : Hid (((swO os p last).take last).length = last) := hU (by rw [List.length_take, swO_len]; have := HL.out; omega)
   clear h0 h1 h2 hf cp fp ck fk hY hHeld
   by_cases hpe : p < last
   ·have hpe' : (p : Int) < (last : Int) := by omega
    have HST := hU (heap_settle p hN HY.out.p HY.out.r (by rw [HYL.out]; exact hpe))
    go_wp2_with (go_at_call 124; refine HST.out.mono ?_; rintro e w4 ⟨rfl, ps', os', hk⟩; have HK4 := hU hk; clear hk)
    go_end0
    exact ⟨rfl, ps', os', _, HK4.out.p, HK4.out.r, (HK4.out.m.cons _).trans HY.out.m, HY.out.b.trans HK4.out.b⟩
   ·have hpe' : ¬ (p : Int) < (last : Int) := by omega
    go_wp2_with fail
    go_end0
    exact ⟨rfl, _, _, _, HY.out⟩
  exact AllReadyH.nil
 exact AllReadyH.nil
end
section
variable {B hb N kb pb : Nat} {v : Value} {ks ps os : List Int} {w : World}
/-- An item is appended to the held ones. -/
theorem HeapR.app {g cap : Nat} {i : Int} {wa w' : World} (h : HeapR B hb N kb pb v ks ps os wa) (h2 : w'.ownsRow B 3 1 (.slice (some ⟨g, 0, none⟩) (os.length + 1) cap) (os.length + 1) (os.map (Value.int .i64) ++ [.int .i64 i])) (h3 : wa.grownBy w' v.ownBlock) (h4 : v.ownBlock = some g ∨ g = wa.heap.size) :
    HeapR B hb N kb pb (.slice (some ⟨g, 0, none⟩) (os.length + 1) cap) ks ps (os ++ [i]) (w'.setCell ⟨hb, 2, none⟩ (.slice (some ⟨g, 0, none⟩) (os.length + 1) cap)) := by
 obtain ⟨n1, n2, n3, n4, n5, n6, n7⟩ := h.ne
 have k1 := (h.k.lt kb rfl).2
 have k2 := (h.p.lt pb rfl).2
 have k3 := h.h.lt
 have m1 : g ≠ kb := by
  rcases h4 with e | e
  ·exact fun e' => n4 (e' ▸ e)
  ·omega
 have m2 : g ≠ pb := by
  rcases h4 with e | e
  ·exact fun e' => n5 (e' ▸ e)
  ·omega
 have m3 : g ≠ hb := by
  rcases h4 with e | e
  ·exact fun e' => n6 (e' ▸ e)
  ·omega
 have hk := h.k.kept h3 (.inr (fun e => n4 (by simpa [Value.ownBlock] using e.symm)))
 have hp := h.p.kept h3 (.inr (fun e => n5 (by simpa [Value.ownBlock] using e.symm)))
 refine ⟨((h.h.grown h3 (fun e => n6 e.symm)).set 2 _ rfl), jZ hk (by simpa [Value.ownBlock] using n2) _, jZ hp (by simpa [Value.ownBlock] using n3) _, ?_, n1, n2, n3, by simpa [Value.ownBlock] using m1, by simpa [Value.ownBlock] using m2, by simpa [Value.ownBlock] using m3, n7⟩
 have h5 := jZ (j := 2) h2 (show (Value.slice (some ⟨g, 0, none⟩) (os.length + 1) cap).ownBlock ≠ some hb by simpa [Value.ownBlock] using m3) (.slice (some ⟨g, 0, none⟩) (os.length + 1) cap)
 rw [List.map_append, List.length_append]
 exact h5
theorem below_app {wa w' : World} (h : HeapR B hb N kb pb v ks ps os wa) (h3 : wa.grownBy w' v.ownBlock) : Below B wa w' :=
 (Below.refl B wa).grown h3 (Nat.le_trans h.ne.2.2.2.2.2.2 (Nat.le_of_lt h.h.lt)) (fun k hk => (h.o.lt k hk).1)
set_option maxRecDepth 100000 in
set_option maxHeartbeats 4000000 in
theorem heap_Set_new (i key : Int) (hN : N ≤ 65536) (h : HP N ks ps os) (H : HeapR B hb N kb pb v ks ps os w) (h0 : 0 ≤ i) (h1 : i < (N : Int)) (hn : ps[i.toNat]? = some 0) :
    Calls Tryz.prog 113 #[.pointer (some ⟨hb, 0, none⟩), .int .i64 i, .int .i64 key] w fun e w' => e = .returned (.int .i64 0) ∧ ∃ v' ps' os', HK B hb N kb pb v' (ks.set i.toNat key) (os ++ [i]) w ps' os' w' := by
 obtain ⟨i0, hi, hz0, hz1, hz2⟩ := info_parts intInfo
 have hle := h.le
 have hle1 := (h.push (key := key) h0 h1 hn).le
 have HPP := hU (h.push (key := key) h0 h1 hn)
 have hip : ps.getD i.toNat 0 = 0 := by rw [List.getD_eq_getElem?_getD, hn]; rfl
 obtain ⟨b0, b1, b2, bf⟩ := H.h.c3
 obtain ⟨ck, fk⟩ := bZ H.k (k := i.toNat) (by omega)
 have H1 := H.setK (k := i.toNat) key
 have HH1 := hU H1
 have HKB := hU H.kB
 have HPB := hU H.pB
 have cp := (bZ H1.p (k := i.toNat) (by omega)).1
 rw [hip] at cp
 have HIP := hU hip
 obtain ⟨n1, n2, n3, n4, n5, n6, n7⟩ := H.ne
 have NE := hU H.ne
 have n8 := n1.symm
 have HW := hU (H.h.lt)
 have HLE := hU hle
 rw [List.length_append] at hle1
 simp only [List.length_cons, List.length_nil] at hle1
 clear h H hn hip H1 n4 n5 n6
 go_enter Tryz.func113, Tryz.ntmps113
 go_upto_region 6 with fail
 refine wp_named3 (fun X => HeapR B hb N kb pb v (ks.set i.toNat key) ps os X ∧ Below B w X) ⟨HH1.out, Bset (Below.refl B w) HKB.out⟩ ?_
 rintro X ⟨hX, hXB⟩
 have HX := hU hX
 have HXB := hU hXB
 clear b0 b1 b2 bf ck fk cp HH1 hX hXB
 obtain ⟨b0, b1, b2, bf⟩ := HX.out.h.c3
 have cp := (bZ HX.out.p (k := i.toNat) (by omega)).1
 rw [HIP.out] at cp
 go_upto_region 7 with fail
 have HA := hU (HX.out.up (cQ X (.cells #[.int .i64 i] 3)))
 have HAB := hU (HXB.out.alloc (Nat.le_trans NE.out.2.2.2.2.2.2 (Nat.le_of_lt HX.out.h.lt)) (.cells #[.int .i64 i] 3))
 clear cp b0 b1
 go_wp2_with (at_builtin; refine wpList_append_lies _ rfl _ _ 63 rfl B 3 i0 (.int .i64 0) 1 8 Tryz.underlying63 hi hz0 hz1 hz2 rfl (by decide) _ _ _ rfl (HX.out.o.alloc _) ⟨_, 0, none⟩ 1 1 [.int .i64 i] rfl rfl (cell_one_new _ _ _) ?c2 (by decide) ?c3 ?c4 ?c5 _ rfl ?_)
 case c2 => intro u hu; simp at hu; subst hu; rfl
 case c3 => have := HLE.out; unfold maxLen; omega
 case c4 => have := HLE.out; omega
 case c5 => have := NE.out.2.2.2.2.2.2; have := HX.out.h.lt; simp; omega
 intro g cap W5 ap1 ap2 ap3 ap4
 have HR5 := hU (HA.out.app ap1 ap2 (by simpa using ap3))
 have HB5 := hU (HAB.out.trans (below_app HA.out ap2))
 obtain ⟨_, _, c2, cf⟩ := (HA.out.h.grown ap2 (fun e => NE.out.2.2.2.2.2.1 e.symm)).c3
 clear ap1 ap2 ap3 ap4 b2 bf
 go_upto_region 8 with fail
 refine wp_named3 (fun Y => HeapR B hb N kb pb (.slice (some ⟨g, 0, none⟩) (os.length + 1) cap) (ks.set i.toNat key) ps (os ++ [i]) Y ∧ Below B w Y) ⟨HR5.out, Bset HB5.out NE.out.2.2.2.2.2.2⟩ ?_
 rintro Y ⟨hY, hYB⟩
 obtain ⟨W1, hW1⟩ : ∃ W1, W1 = Y.drew := ⟨_, rfl⟩
 have HY := hU (hW1 ▸ hY.up (Bdrw (Below.refl _ _)) : HeapR B hb N kb pb (.slice (some ⟨g, 0, none⟩) (os.length + 1) cap) (ks.set i.toNat key) ps (os ++ [i]) W1)
 have HYB := hU (hW1 ▸ Bdrw hYB : Below B w W1)
 clear c2 cf hY hYB
 obtain ⟨b0, b1, b2, bf⟩ := HY.out.h.c3
 obtain ⟨cp, fp⟩ := bZ HY.out.p (k := i.toNat) (by omega)
 refine wp_region_held_drew (S := (fun w' => w'.cell? ⟨hb, 1, none⟩ = some (.slice (some ⟨pb, 0, none⟩) N N) ∧ w'.cell? ⟨hb, 2, none⟩ = some (.slice (some ⟨g, 0, none⟩) (os.length + 1) cap))) (by kernel_rfl) ?_ (fun hHeld => ?_)
 ·exact hW1 ▸ ⟨b1, b2⟩
 rw [← hW1] at hHeld ⊢
 clear hW1
 refine tk 0 ?_
 (try simp only [Act.put, sA, sB, sC])
 refine tk 1 ?_
 (try simp only [Act.put, sA, sB, sC])
 refine tk 2 ?_
 (try simp only [Act.put, sA, sB, sC])
 refine tk 3 ?_
 (try simp only [Act.put, sA, sB, sC])
 refine tk 4 ?_
 (try simp only [Act.put, sA, sB, sC])
 refine tk 5 ?_
 (try simp only [Act.put, sA, sB, sC])
 refine tk 6 ?_
 (try simp only [Act.put, sA, sB, sC])
 refine tk 7 ?_
 (try simp only [Act.put, sA, sB, sC])
 refine tk 8 ?_
 (try simp only [Act.put, sA, sB, sC])
 refine tk 9 ?_
 (try simp only [Act.put, sA, sB, sC])
 refine tk 10 ?_
 (try simp only [Act.put, sA, sB, sC])
 refine wpAnyH_ready (rs := [11]) (by decide +kernel) (by simp) ?_
 refine consL rfl (fun K hK => ?_) ?_
 ·(first | fail | (go_simp; first | done | (first | fail)) | go_simp)
  (first | (with_reducible refine hK.out _ _ ?_ ?_) | (go_wp2_with fail; refine hK.out _ _ ?_ ?_))
  (focus ((first | with_reducible exact hHeld | with_reducible exact q2_set n3 n3 hHeld)))
  clear hK K hHeld
  intro hHeld
  (try simp only [Act.put, sA, sB, sC])
  refine wpAnyH_done (by decide +kernel) ?_ _
  go_upto_region 9 with fail
  refine wp_named3 (fun Z => HeapR B hb N kb pb (.slice (some ⟨g, 0, none⟩) (os.length + 1) cap) (ks.set i.toNat key) (ps.set i.toNat (((os.length + 1 : Nat) : Int))) (os ++ [i]) Z ∧ Below B w Z) ⟨HY.out.setP _, Bset HYB.out HPB.out⟩ ?_
  rintro Z ⟨hZ, hZB⟩
  have HZ := hU hZ
  have HZB := hU hZB
  clear b0 b1 b2 bf cp fp hZ hZB hHeld
  obtain ⟨b0, b1, b2, bf⟩ := HZ.out.h.c3
  have cp := (bZ HZ.out.p (k := i.toNat) (by omega)).1
  rw [show (ps.set i.toNat (((os.length + 1 : Nat) : Int))).getD i.toNat 0 = ((os.length + 1 : Nat) : Int) by rw [List.getD_eq_getElem?_getD, List.getElem?_set_self (by have := HPP.out.pl; rw [List.length_set] at this; omega)]; rfl] at cp
  have HST := hU (heap_settle os.length hN HPP.out HZ.out (by simp))
  go_wp2_with (go_at_call 124; refine HST.out.mono ?_; rintro e w4 ⟨rfl, ps', os', hk⟩; have HK4 := hU hk; clear hk)
  go_ret
  exact ⟨rfl, _, ps', os', HK4.out.p, HK4.out.r, HK4.out.m, HZB.out.trans HK4.out.b⟩
 exact AllReadyH.nil
set_option maxRecDepth 100000 in
set_option maxHeartbeats 4000000 in
theorem heap_Set_old (i key : Int) (p : Nat) (hN : N ≤ 65536) (h : HP N ks ps os) (H : HeapR B hb N kb pb v ks ps os w) (h0 : 0 ≤ i) (h1 : i < (N : Int)) (hp : ps[i.toNat]? = some ((p : Int) + 1)) (hpl : p < os.length) :
    Calls Tryz.prog 113 #[.pointer (some ⟨hb, 0, none⟩), .int .i64 i, .int .i64 key] w fun e w' => e = .returned (.int .i64 0) ∧ ∃ v' ps' os', HK B hb N kb pb v' (ks.set i.toNat key) os w ps' os' w' := by
 have hle := h.le
 have HPP := hU (h.key i.toNat key)
 have hip : ps.getD i.toNat 0 = (p : Int) + 1 := by rw [List.getD_eq_getElem?_getD, hp]; rfl
 obtain ⟨b0, b1, b2, bf⟩ := H.h.c3
 obtain ⟨ck, fk⟩ := bZ H.k (k := i.toNat) (by omega)
 have H1 := H.setK (k := i.toNat) key
 have HH1 := hU H1
 have HKB := hU H.kB
 obtain ⟨n1, n2, n3, n4, n5, n6, n7⟩ := H.ne
 have n8 := n1.symm
 have HIP := hU hip
 have hpz : ((p : Int) + 1 == 0) = false := by simp; omega
 have HPL := hU hpl
 clear h H hip H1 n4 n5 n6 hp
 go_enter Tryz.func113, Tryz.ntmps113
 go_upto_region 6 with fail
 refine wp_named3 (fun X => HeapR B hb N kb pb v (ks.set i.toNat key) ps os X ∧ Below B w X) ⟨HH1.out, Bset (Below.refl B w) HKB.out⟩ ?_
 rintro X ⟨hX, hXB⟩
 have HX := hU hX
 have HXB := hU hXB
 clear b0 b1 b2 bf ck fk HH1 hX hXB
 obtain ⟨b0, b1, b2, bf⟩ := HX.out.h.c3
 have cp := (bZ HX.out.p (k := i.toNat) (by omega)).1
 rw [HIP.out] at cp
 have HST := hU (heap_settle p hN HPP.out HX.out HPL.out)
 go_wp2_with (go_at_call 124; refine HST.out.mono ?_; rintro e w4 ⟨rfl, ps', os', hk⟩; have HK4 := hU hk; clear hk)
 go_ret
 exact ⟨rfl, _, ps', os', HK4.out.p, HK4.out.r, HK4.out.m, HXB.out.trans HK4.out.b⟩
/-- Set, at any item. -/
theorem heap_Set (i key : Int) (hN : N ≤ 65536) (h : HP N ks ps os) (H : HeapR B hb N kb pb v ks ps os w) (h0 : 0 ≤ i) (h1 : i < (N : Int)) :
    Calls Tryz.prog 113 #[.pointer (some ⟨hb, 0, none⟩), .int .i64 i, .int .i64 key] w fun e w' => e = .returned (.int .i64 0) ∧ ∃ v' ps' os', HK B hb N kb pb v' (ks.set i.toNat key) (if i ∈ os then os else os ++ [i]) w ps' os' w' := by
 have hi : ((i.toNat : Nat) : Int) = i := by omega
 rcases h.b i.toNat (by omega) with e | ⟨p, e, hp⟩
 ·have hm : i ∉ os := fun hm => by
   have := (h.held_iff h0 h1).2 hm
   unfold held at this
   rw [List.getD_eq_getElem?_getD, e] at this
   cases this
  rw [if_neg hm]
  exact heap_Set_new i key hN h H h0 h1 e
 ·have hm : i ∈ os := by rw [← hi]; exact List.mem_of_getElem? hp
  rw [if_pos hm]
  exact heap_Set_old i key p hN h H h0 h1 e (List.getElem?_eq_some_iff.1 hp).1
set_option maxRecDepth 100000 in
set_option maxHeartbeats 4000000 in
theorem heap_Key (i : Int) (hN : N ≤ 65536) (h : HP N ks ps os) (H : HeapR B hb N kb pb v ks ps os w) (h0 : 0 ≤ i) (h1 : i < (N : Int)) :
    Calls Tryz.prog 118 #[.pointer (some ⟨hb, 0, none⟩), .int .i64 i] w fun e w' => e = .returned (.tuple #[.int .i64 (if i ∈ os then ks.getD i.toNat 0 else 0), .bool (decide (i ∈ os))]) ∧ Below w.heap.size w w' := by
 have hi : ((i.toNat : Nat) : Int) = i := by omega
 obtain ⟨b0, b1, b2, bf⟩ := H.h.c3
 obtain ⟨ck, fk⟩ := bZ H.k (k := i.toNat) (by omega)
 have cp := (bZ H.p (k := i.toNat) (by omega)).1
 rcases h.b i.toNat (by omega) with e | ⟨p, e, hp⟩
 ·have hm : i ∉ os := fun hm => by
   have := (h.held_iff h0 h1).2 hm
   unfold held at this
   rw [List.getD_eq_getElem?_getD, e] at this
   cases this
  rw [show ps.getD i.toNat 0 = 0 by rw [List.getD_eq_getElem?_getD, e]; rfl] at cp
  simp only [hm, if_false, decide_false]
  clear h H hm e ck fk hi bf
  go_enter Tryz.func118, Tryz.ntmps118
  go_wp2_with fail
  go_ret2
  exact ⟨rfl, Below.refl _ _⟩
 ·have hm : i ∈ os := by rw [← hi]; exact List.mem_of_getElem? hp
  rw [show ps.getD i.toNat 0 = (p : Int) + 1 by rw [List.getD_eq_getElem?_getD, e]; rfl] at cp
  have hpz : ((p : Int) + 1 == 0) = false := by simp; omega
  simp only [hm, if_true, decide_true]
  clear h H hm e hp hi bf
  go_enter Tryz.func118, Tryz.ntmps118
  go_wp2_with fail
  go_ret2
  exact ⟨rfl, Below.refl _ _⟩
set_option maxRecDepth 100000 in
set_option maxHeartbeats 4000000 in
theorem heap_Pop_none (H : HeapR B hb N kb pb v ks ps [] w) :
    Calls Tryz.prog 114 #[.pointer (some ⟨hb, 0, none⟩)] w fun e w' => e = .returned (.tuple #[.int .i64 0, .int .i64 0, .bool false]) ∧ Below w.heap.size w w' := by
 obtain ⟨b0, b1, b2, bf⟩ := H.h.c3
 obtain ⟨A, c, rfl⟩ : ∃ A c, v = .slice A 0 c := by
  rcases H.o.2 with ⟨rfl, _⟩ | ⟨g, cap, cur, rfl, _⟩
  ·exact ⟨none, 0, rfl⟩
  ·exact ⟨_, cap, rfl⟩
 clear H bf b0 b1
 go_enter Tryz.func114, Tryz.ntmps114
 go_wp2_with fail
 exact bodyPost_ret (v := .tuple #[.int .i64 0, .int .i64 0, .bool false]) (by simp [results, Tryz.results114, go_sem]) rfl ⟨rfl, Below.refl _ _⟩
set_option maxRecDepth 100000 in
set_option maxHeartbeats 4000000 in
theorem heap_Pop_some (hN : N ≤ 65536) (h : HP N ks ps os) (H : HeapR B hb N kb pb v ks ps os w) (hl : 0 < os.length) :
    Calls Tryz.prog 114 #[.pointer (some ⟨hb, 0, none⟩)] w fun e w' => ∃ i, i ∈ os ∧ e = .returned (.tuple #[.int .i64 i, .int .i64 (ks.getD i.toNat 0), .bool true]) ∧ ∃ ps' os' v', HT B hb N kb pb v ks os i w ps' os' v' w' := by
 obtain ⟨b0, b1, b2, bf⟩ := H.h.c3
 obtain ⟨g, c, rfl, hgc, hg⟩ := own_at H.o hl
 have i0 := (bZ H.o hl).1
 have a0 := h.a 0 _ (getD_some hl)
 have HTK := hU (heap_take 0 hN h H hl)
 have HM : Hid (os.getD 0 0 ∈ os) := hU (List.mem_of_getElem? (getD_some hl))
 generalize os.getD 0 0 = i at *
 obtain ⟨a1, a2, _⟩ := a0
 obtain ⟨ck, fk⟩ := bZ H.k (k := i.toNat) (by omega)
 have hl' : (0 : Int) < (os.length : Int) := by omega
 have hlz : ((os.length : Int) == 0) = false := beq_eq_false_iff_ne.2 (by omega)
 obtain ⟨key, hkey⟩ : ∃ key, key = ks.getD i.toNat 0 := ⟨_, rfl⟩
 rw [← hkey] at ck
 have HKY := hU hkey
 clear hkey
 clear h H hg hgc bf b1 fk
 go_enter Tryz.func114, Tryz.ntmps114
 go_wp2_with (go_at_call 125; refine HTK.out.mono ?_; rintro e w4 ⟨rfl, ps', os', v', hk⟩; have HK4 := hU hk; clear hk)
 exact bodyPost_ret (v := .tuple #[.int .i64 i, .int .i64 key, .bool true]) (by simp [results, Tryz.results114, go_sem]) rfl ⟨i, HM.out, by rw [HKY.out], ps', os', v', HK4.out⟩
end
end
end Go.Proofs.YtdnjflpmbnjgeaaGreat
