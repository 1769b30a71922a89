/-
  An indexed queue in memory: settle.
  An indexed queue in memory: take (printed by gen_heapu.py).
-/
import Derived.Test.YtdnjflpmbnjgeaaHeapS
import Derived.Deep.CutRange
import Derived.Deep.DeepCutAuto
namespace Go.Proofs.Ytdnjflpmbnjgeaa
set_option linter.unusedSimpArgs false
set_option linter.unusedVariables false
open Go.RowKit Go.Sort
section
variable {B hb N kb pb : Nat} {v : Value} {ks ps os : List Int} {w : World}
/-- What settle and its kin keep. -/
structure HK (B hb N kb pb : Nat) (v : Value) (ks os : List Int) (w : World) (ps' os' : List Int) (w' : World) : Prop where
  p : HP N ks ps' os'
  r : HeapR B hb N kb pb v ks ps' os' w'
  m : os'.Perm os
  b : Below B w w'
theorem HK.len {ps' os' : List Int} {w' : World} (h : HK B hb N kb pb v ks os w ps' os' w') : os'.length = os.length := h.m.length_eq
theorem HK.up {ps' os' : List Int} {w1 w2 : World} (h : HK B hb N kb pb v ks os w ps' os' w1) (hb' : Below w1.heap.size w1 w2) : HK B hb N kb pb v ks os w ps' os' w2 :=
  ⟨h.p, h.r.up hb', h.m, h.b.trans (hb'.mono (Nat.le_trans h.r.ne.2.2.2.2.2.2 (Nat.le_of_lt h.r.h.lt)))⟩
theorem HK.swap {ps' os' : List Int} {w1 w2 : World} {p q : Nat} (h : HK B hb N kb pb v ks os w ps' os' w1) (hp : p < os.length) (hq : q < os.length) (hr : HeapR B hb N kb pb v ks (swP ps' os' p q) (swO os' p q) w2) (hb' : Below B w1 w2) : HK B hb N kb pb v ks os w (swP ps' os' p q) (swO os' p q) w2 :=
  ⟨h.p.swap (by rw [h.len]; exact hp) (by rw [h.len]; exact hq), hr, (swO_perm (by rw [h.len]; exact hp) (by rw [h.len]; exact hq)).trans h.m, h.b.trans hb'⟩
set_option maxRecDepth 100000 in
set_option maxHeartbeats 4000000 in
theorem heap_settle (p : Nat) (hN : N ≤ 65536) (h : HP N ks ps os) (H : HeapR B hb N kb pb v ks ps os w) (hp : p < os.length) :
    Calls Try.prog 83 #[.pointer (some ⟨hb, 0, none⟩), .int .i64 p] w fun e w' => e = .returned (.tuple #[]) ∧ ∃ ps' os', HK B hb N kb pb v ks os w ps' os' w' := by
  obtain ⟨g, c, rfl, _, _⟩ := own_at H.o (by omega)
  have HI := Lib.hid (HK.mk h H (List.Perm.refl _) (Below.refl B w) : HK B hb N kb pb (.slice (some ⟨g, 0, none⟩) os.length c) ks os w ps os w)
  have hle := h.le
  clear h H
  go_enter Try.func83, Try.ntmps83
  go_upto_block 0 with fail
  go_cut [1] from 6 to 24 (fun i wx => ∃ (k : Nat) (ps' os' : List Int), i = .int .i64 k ∧ k < os.length ∧ Hid (HK B hb N kb pb (.slice (some ⟨g, 0, none⟩) os.length c) ks os w ps' os' wx))
  case first =>
    go_wp2_with fail
    go_loopw [1] (fun i wr => ∃ (k : Nat) (ps' os' : List Int), i = .int .i64 k ∧ k < os.length ∧ Hid (HK B hb N kb pb (.slice (some ⟨g, 0, none⟩) os.length c) ks os w ps' os' wr)) (fun i _ => (intOf i).toNat)
    case atStart => exact ⟨p, ps, os, rfl, hp, HI⟩
    case round =>
      clear HI hp
      obtain ⟨k, ps', os', rfl, hk, HI⟩ := hrel
      by_cases h0 : k = 0
      · subst h0
        go_wp2_with fail
        go_meet
        exact ⟨0, ps', os', rfl, hk, HI⟩
      · have hkp : (0 : Int) < (k : Int) := by omega
        have hq1 : ((k : Int) - 1).tdiv 2 = (((k - 1) / 2 : Nat) : Int) := by
          rw [show (k : Int) - 1 = ((k - 1 : Nat) : Int) by omega]; exact (Int.ofNat_tdiv (k - 1) 2).symm
        have hq2 : ((k : Int) - 1) / 2 = (((k - 1) / 2 : Nat) : Int) := by omega
        have hk2 : (k - 1) / 2 < k := by omega
        have HBE := Lib.hid (heap_before k ((k - 1) / 2) hN HI.out.p HI.out.r (by rw [HI.out.len]; exact hk) (by rw [HI.out.len]; omega))
        have HSW := Lib.hid (fun W (hW : HeapR B hb N kb pb (.slice (some ⟨g, 0, none⟩) os.length c) ks ps' os' W) => heap_swap k ((k - 1) / 2) hN HI.out.p hW (by rw [HI.out.len]; exact hk) (by rw [HI.out.len]; omega))
        cases hbf : bef ks os' k ((k - 1) / 2) with
        | false =>
          go_wp2_with (go_at_call 85; (try simp only [hq2]); refine HBE.out.mono ?_; rw [hbf]; rintro e w3 ⟨rfl, hb3⟩; replace HI := Lib.hid (HI.out.up hb3); clear hb3)
          go_meet
          exact ⟨k, ps', os', rfl, hk, HI⟩
        | true =>
          go_wp2_with (first | (go_at_call 85; (try simp only [hq2]); refine HBE.out.mono ?_; rw [hbf]; rintro e w3 ⟨rfl, hb3⟩; replace HI := Lib.hid (HI.out.up hb3); clear hb3) | (go_at_call 86; (try simp only [hq2]); refine (HSW.out _ HI.out.r).mono ?_; rintro e w4 ⟨rfl, hr4, hb4⟩; have HI4 := Lib.hid (HI.out.swap hk (by omega) hr4 hb4); clear hr4 hb4))
          go_roundw
          case rel => exact ⟨(k - 1) / 2, _, _, by go_num, by omega, HI4⟩
          case measure => simp [intOf]; omega
  case rest =>
    clear HI hp
    obtain ⟨k, ps', os', rfl, hk, HI⟩ := hcut
    go_wp2_with fail
    go_loopw [1] (fun i wr => ∃ (k : Nat) (ps' os' : List Int), i = .int .i64 k ∧ k < os.length ∧ Hid (HK B hb N kb pb (.slice (some ⟨g, 0, none⟩) os.length c) ks os w ps' os' wr)) (fun i _ => os.length - (intOf i).toNat)
    case atStart => exact ⟨k, ps', os', rfl, hk, HI⟩
    case round =>
      clear HI hk
      obtain ⟨k, ps', os', rfl, hk, HI⟩ := hrel
      have hk1 : (k : Int) ≤ 65536 := by omega
      go_upto_block 4 with fail
      go_cut [4, 5] from 25 to 57 (fun l _ wx => ∃ j : Nat, l = .int .i64 j ∧ k ≤ j ∧ j < os.length ∧ Hid (HK B hb N kb pb (.slice (some ⟨g, 0, none⟩) os.length c) ks os w ps' os' wx))
      case first =>
        go_wp2_with fail
        go_loopw [4, 5] (fun l i wr => ∃ (j m : Nat), l = .int .i64 j ∧ i = .int .i64 m ∧ k ≤ j ∧ j < os.length ∧ k < m ∧ m ≤ 2 * k + 3 ∧ Hid (HK B hb N kb pb (.slice (some ⟨g, 0, none⟩) os.length c) ks os w ps' os' wr)) (fun _ i _ => 2 * k + 3 - (intOf i).toNat)
        case atStart => exact ⟨k, 2 * k + 1, rfl, by go_num, by omega, hk, by omega, by omega, HI⟩
        case round =>
          clear HI
          obtain ⟨j, m, rfl, rfl, hj1, hj2, hm1, hm2, HI⟩ := hrel
          by_cases c1 : m ≤ 2 * k + 2
          · have c1' : (m : Int) ≤ 2 * (k : Int) + 2 := by omega
            obtain ⟨h0, h1, h2, hf⟩ := HI.out.r.h.c3
            clear h0 h1 hf
            by_cases c2 : m < os.length
            · have c2' : (m : Int) < (os.length : Int) := by omega
              have HBE := Lib.hid (heap_before m j hN HI.out.p HI.out.r (by rw [HI.out.len]; exact c2) (by rw [HI.out.len]; omega))
              cases hbf : bef ks os' m j with
              | false =>
                go_wp2_with (go_at_call 85; refine HBE.out.mono ?_; rw [hbf]; rintro e w3 ⟨rfl, hb3⟩; replace HI := Lib.hid (HI.out.up hb3); clear hb3 h2)
                go_roundw
                case rel => exact ⟨j, m + 1, rfl, by go_num, by omega, by omega, by omega, by omega, HI⟩
                case measure => simp [intOf]; omega
              | true =>
                go_wp2_with (go_at_call 85; refine HBE.out.mono ?_; rw [hbf]; rintro e w3 ⟨rfl, hb3⟩; replace HI := Lib.hid (HI.out.up hb3); clear hb3 h2)
                go_roundw
                case rel => exact ⟨m, m + 1, rfl, by go_num, by omega, by omega, by omega, by omega, HI⟩
                case measure => simp [intOf]; omega
            · have c2' : ¬ (m : Int) < (os.length : Int) := by omega
              go_wp2_with fail
              go_meet
              exact ⟨j, rfl, hj1, hj2, HI⟩
          · have c1' : ¬ (m : Int) ≤ 2 * (k : Int) + 2 := by omega
            go_wp2_with fail
            go_meet
            exact ⟨j, rfl, hj1, hj2, HI⟩
      case rest =>
        clear HI
        obtain ⟨j, rfl, hj1, hj2, HI⟩ := hcut
        by_cases e : j = k
        · subst e
          go_wp2_with fail
          exact bodyPost_ret (v := .tuple #[]) (by simp [results, Try.results83, go_sem]) rfl ⟨rfl, _, _, HI.out⟩
        · have hne : ((j : Int) == (k : Int)) = false := by simp; omega
          have HSW := Lib.hid (fun W (hW : HeapR B hb N kb pb (.slice (some ⟨g, 0, none⟩) os.length c) ks ps' os' W) => heap_swap k j hN HI.out.p hW (by rw [HI.out.len]; exact hk) (by rw [HI.out.len]; omega))
          go_wp2_with (go_at_call 86; refine (HSW.out _ HI.out.r).mono ?_; rintro e w4 ⟨rfl, hr4, hb4⟩; have HI4 := Lib.hid (HI.out.swap hk hj2 hr4 hb4); clear hr4 hb4)
          go_roundw
          case rel => exact ⟨j, _, _, rfl, hj2, HI4⟩
          case measure => simp [intOf]; omega
end
end Go.Proofs.Ytdnjflpmbnjgeaa
namespace Go.Proofs.Ytdnjflpmbnjgeaa
set_option linter.unusedSimpArgs false
set_option linter.unusedVariables false
open Go.RowKit Go.Sort
theorem own_cut {w : World} {base g n m c : Nat} {E : TypeId} {xs : List Value} (h : w.ownsRow base E 1 (.slice (some ⟨g, 0, none⟩) n c) n xs) (hm : m ≤ n) : w.ownsRow base E 1 (.slice (some ⟨g, 0, none⟩) m c) m (xs.take m) := by
  obtain ⟨hl, ⟨h0, h1⟩ | ⟨g', cap, cur, h0, hb, hg, hnc, hcm, hs, ht⟩⟩ := h
  · cases h0
  · injection h0 with e1 e2 e3
    injection e1 with e1
    injection e1 with e1
    subst e1 e3
    refine ⟨by rw [List.length_take]; omega, .inr ⟨g, c, cur, rfl, hb, hg, by omega, hcm, hs, ?_⟩⟩
    rw [← ht, List.take_take]
    congr 1
    omega
theorem take_last {os : List Int} {p last : Nat} (hl : os.length = last + 1) (hp : p < os.length) : swO os p last = (swO os p last).take last ++ [os.getD p 0] := by
  have h1 : (swO os p last)[last]? = some (os.getD p 0) := by rw [swO_get hp (by omega), if_pos rfl]
  have h2 : (swO os p last).length = last + 1 := by rw [swO_len, hl]
  conv => lhs; rw [← List.take_append_drop last (swO os p last)]
  congr 1
  refine List.ext_getElem? fun j => ?_
  rw [List.getElem?_drop]
  cases j with
  | zero => simpa using h1
  | succ j => rw [List.getElem?_eq_none (by omega), List.getElem?_eq_none (by simp)]
section
variable {B hb N kb pb : Nat} {v : Value} {ks ps os : List Int} {w : World}
/-- The last place is cut off. -/
theorem HeapR.cut {g c m n : Nat} (h : HeapR B hb N kb pb (.slice (some ⟨g, 0, none⟩) n c) ks ps os w) (hm : m ≤ n) : HeapR B hb N kb pb (.slice (some ⟨g, 0, none⟩) m c) ks ps (os.take m) (w.setCell ⟨hb, 2, none⟩ (.slice (some ⟨g, 0, none⟩) m c)) := by
  have ho := h.o
  have hn := own_len ho
  subst hn
  obtain ⟨n1, n2, n3, n4, n5, n6, n7⟩ := h.ne
  have m3 : g ≠ hb := by simpa [Value.ownBlock] using n6
  refine ⟨h.h.set 2 _ rfl, own_setCell h.k (by simpa [Value.ownBlock] using n2) _, own_setCell h.p (by simpa [Value.ownBlock] using n3) _, ?_, n1, n2, n3, n4, n5, n6, n7⟩
  have h2 := own_setCell (j := 2) (own_cut ho hm) (show (Value.slice (some ⟨g, 0, none⟩) m c).ownBlock ≠ some hb by simpa [Value.ownBlock] using m3) (.slice (some ⟨g, 0, none⟩) m c)
  rw [← List.map_take] at h2
  rw [List.length_take, Nat.min_eq_left hm]
  exact h2
/-- What taking out the item i leaves. -/
structure HT (B hb N kb pb : Nat) (v : Value) (ks os : List Int) (i : Int) (w : World) (ps' os' : List Int) (v' : Value) (w' : World) : Prop where
  p : HP N (ks.set i.toNat 0) ps' os'
  r : HeapR B hb N kb pb v' (ks.set i.toNat 0) ps' os' w'
  m : (i :: os').Perm os
  b : Below B w w'
set_option maxRecDepth 100000 in
set_option maxHeartbeats 4000000 in
theorem heap_take (p : Nat) (hN : N ≤ 65536) (h : HP N ks ps os) (H : HeapR B hb N kb pb v ks ps os w) (hp : p < os.length) :
    Calls Try.prog 84 #[.pointer (some ⟨hb, 0, none⟩), .int .i64 p] w fun e w' => e = .returned (.tuple #[]) ∧ ∃ ps' os' v', HT B hb N kb pb v ks os (os.getD p 0) w ps' os' v' w' := by
  obtain ⟨g, c, rfl, hgc, hg⟩ := own_at H.o (by omega)
  obtain ⟨last, hl⟩ : ∃ last, os.length = last + 1 := ⟨os.length - 1, by omega⟩
  have hle := h.le
  have ip := (own_int H.o hp).1
  have ap := h.a p _ (getD_some hp)
  have HSW := Lib.hid (heap_swap p last hN h H hp (by omega))
  have HPS := Lib.hid (h.swap hp (show last < os.length by omega))
  have HTL := Lib.hid (take_last hl hp)
  have HPM := Lib.hid (swO_perm hp (show last < os.length by omega))
  have HNE := Lib.hid H.ne
  have HL := Lib.hid hl
  have HH := Lib.hid H
  obtain ⟨h0, h1, h2, hf⟩ := H.h.c3
  have hpl : (p : Int) < (last : Int) + 1 := by omega
  have hl65 : (last : Int) < 65536 := by omega
  have hcl : (last : Int) ≤ (c : Int) := by omega
  have HGC := Lib.hid hgc
  have HPB := Lib.hid H.pB
  have HKB := Lib.hid H.kB
  obtain ⟨xp, hxp⟩ : ∃ x, x = os.getD p 0 := ⟨_, rfl⟩
  rw [← hxp] at ip ap HTL ⊢
  obtain ⟨a1, a2, _⟩ := ap
  have HXP := Lib.hid hxp
  rw [hl] at h2
  clear h H hg hxp hl h0 h1 hp hgc
  go_enter Try.func84, Try.ntmps84
  go_upto_region 1 with fail
  go_upto_region 2 with fail
  go_upto_region 3 with (go_at_call 86; refine HSW.out.mono ?_; rintro e w3 ⟨rfl, hr3, hb3⟩; have HR3 := Lib.hid hr3; have HB3 := Lib.hid hb3; clear hr3 hb3 h2 hf ip; obtain ⟨h0, h1, h2, hf⟩ := HR3.out.h.c3; rw [HL.out] at h2)
  go_upto_region 4 with fail
  refine wp_named3 (fun X => HeapR B hb N kb pb (.slice (some ⟨g, 0, none⟩) last c) ks (swP ps os p last) ((swO os p last).take last) X ∧ Below B w X) ⟨?_, ?_⟩ ?_
  · exact HR3.out.cut (by have := HL.out; omega)
  · exact Bset HB3.out HNE.out.2.2.2.2.2.2
  rintro X ⟨hX, hXB⟩
  obtain ⟨W1, hW1⟩ : ∃ W1, W1 = X.drew := ⟨_, rfl⟩
  have HX := Lib.hid (hW1 ▸ hX.up (Bdrw (Below.refl _ _)) : HeapR B hb N kb pb (.slice (some ⟨g, 0, none⟩) last c) ks (swP ps os p last) ((swO os p last).take last) W1)
  have HXB := Lib.hid (hW1 ▸ Bdrw hXB : Below B w W1)
  clear h0 h1 h2 hf hX hXB
  obtain ⟨h0, h1, h2, hf⟩ := HX.out.h.c3
  obtain ⟨cp, fp⟩ := own_int HX.out.p (k := xp.toNat) (by omega)
  obtain ⟨ck, fk⟩ := own_int HX.out.k (k := xp.toNat) (by omega)
  obtain ⟨n1, n2, n3, _, _, _, n7⟩ := HNE.out
  have n8 := n1.symm
  refine wp_region_held_drew (S := (fun w' => w'.cell? ⟨hb, 0, none⟩ = some (.slice (some ⟨kb, 0, none⟩) N N) ∧ w'.cell? ⟨hb, 1, none⟩ = some (.slice (some ⟨pb, 0, none⟩) N N))) (by kernel_rfl) ?_ (fun hHeld => ?_)
  · exact hW1 ▸ ⟨h0, h1⟩
  rw [← hW1] at hHeld ⊢
  clear hW1
  (refine takeL (i := 0) (v := ?_) rfl (by kernel_rfl) (by decide +kernel) (by decide +kernel) (fun _ _ _ h => h) (Or.inl ⟨by rfl, ?_⟩) (by assumption) ?_; rotate_left; (focus (intro w9 hS9; (try dsimp only at hS9); go_simp; (try with_reducible rfl); done)))
  (try simp only [Act.put, List.setIfInBounds_toArray, List.set_cons_zero, List.set_cons_succ])
  (refine takeL (i := 1) (v := ?_) rfl (by kernel_rfl) (by decide +kernel) (by decide +kernel) (fun _ _ _ h => h) (Or.inl ⟨by rfl, ?_⟩) (by assumption) ?_; rotate_left; (focus (intro w9 hS9; (try dsimp only at hS9); go_simp; (try with_reducible rfl); done)))
  (try simp only [Act.put, List.setIfInBounds_toArray, List.set_cons_zero, List.set_cons_succ])
  (refine takeL (i := 2) (v := ?_) rfl (by kernel_rfl) (by decide +kernel) (by decide +kernel) (fun _ _ _ h => h) (Or.inl ⟨by rfl, ?_⟩) (by assumption) ?_; rotate_left; (focus (intro w9 hS9; (try dsimp only at hS9); go_simp; (try with_reducible rfl); done)))
  (try simp only [Act.put, List.setIfInBounds_toArray, List.set_cons_zero, List.set_cons_succ])
  (refine takeL (i := 3) (v := ?_) rfl (by kernel_rfl) (by decide +kernel) (by decide +kernel) (fun _ _ _ h => h) (Or.inl ⟨by rfl, ?_⟩) (by assumption) ?_; rotate_left; (focus (intro w9 hS9; (try dsimp only at hS9); go_simp; (try with_reducible rfl); done)))
  (try simp only [Act.put, List.setIfInBounds_toArray, List.set_cons_zero, List.set_cons_succ])
  (refine takeL (i := 4) (v := ?_) rfl (by kernel_rfl) (by decide +kernel) (by decide +kernel) (fun _ _ _ h => h) (Or.inl ⟨by rfl, ?_⟩) (by assumption) ?_; rotate_left; (focus (intro w9 hS9; (try dsimp only at hS9); go_simp; (try with_reducible rfl); done)))
  (try simp only [Act.put, List.setIfInBounds_toArray, List.set_cons_zero, List.set_cons_succ])
  (refine takeL (i := 5) (v := ?_) rfl (by kernel_rfl) (by decide +kernel) (by decide +kernel) (fun _ _ _ h => h) (Or.inl ⟨by rfl, ?_⟩) (by assumption) ?_; rotate_left; (focus (intro w9 hS9; (try dsimp only at hS9); go_simp; (try with_reducible rfl); done)))
  (try simp only [Act.put, List.setIfInBounds_toArray, List.set_cons_zero, List.set_cons_succ])
  (refine takeL (i := 6) (v := ?_) rfl (by kernel_rfl) (by decide +kernel) (by decide +kernel) (fun _ _ _ h => h) (Or.inl ⟨by rfl, ?_⟩) (by assumption) ?_; rotate_left; (focus (intro w9 hS9; (try dsimp only at hS9); go_simp; (try with_reducible rfl); done)))
  (try simp only [Act.put, List.setIfInBounds_toArray, List.set_cons_zero, List.set_cons_succ])
  (refine takeL (i := 7) (v := ?_) rfl (by kernel_rfl) (by decide +kernel) (by decide +kernel) (fun _ _ _ h => h) (Or.inl ⟨by rfl, ?_⟩) (by assumption) ?_; rotate_left; (focus (intro w9 hS9; (try dsimp only at hS9); go_simp; (try with_reducible rfl); done)))
  (try simp only [Act.put, List.setIfInBounds_toArray, List.set_cons_zero, List.set_cons_succ])
  (refine takeL (i := 8) (v := ?_) rfl (by kernel_rfl) (by decide +kernel) (by decide +kernel) (fun _ _ _ h => h) (Or.inl ⟨by rfl, ?_⟩) (by assumption) ?_; rotate_left; (focus (intro w9 hS9; (try dsimp only at hS9); go_simp; (try with_reducible rfl); done)))
  (try simp only [Act.put, List.setIfInBounds_toArray, List.set_cons_zero, List.set_cons_succ])
  (refine takeL (i := 9) (v := ?_) rfl (by kernel_rfl) (by decide +kernel) (by decide +kernel) (fun _ _ _ h => h) (Or.inl ⟨by rfl, ?_⟩) (by assumption) ?_; rotate_left; (focus (intro w9 hS9; (try dsimp only at hS9); go_simp; (try with_reducible rfl); done)))
  (try simp only [Act.put, List.setIfInBounds_toArray, List.set_cons_zero, List.set_cons_succ])
  (refine takeL (i := 10) (v := ?_) rfl (by kernel_rfl) (by decide +kernel) (by decide +kernel) (fun _ _ _ h => h) (Or.inl ⟨by rfl, ?_⟩) (by assumption) ?_; rotate_left; (focus (intro w9 hS9; (try dsimp only at hS9); go_simp; (try with_reducible rfl); done)))
  (try simp only [Act.put, List.setIfInBounds_toArray, List.set_cons_zero, List.set_cons_succ])
  refine wpAnyH_ready (rs := [11]) (by decide +kernel) (by simp) ?_
  refine consL rfl (fun K hK => ?_) ?_
  · (first | fail | (go_simp; first | done | (first | fail)) | go_simp)
    (first | (with_reducible refine hK.out _ _ ?_ ?_) | (go_wp2_with fail; refine hK.out _ _ ?_ ?_))
    (focus ((first | with_reducible exact hHeld | with_reducible exact q2_set n3 n3 hHeld | with_reducible exact q2_set n2 n2 hHeld | with_reducible exact q2_set n2 n2 (q2_set n3 n3 hHeld))))
    clear hK K hHeld
    intro hHeld
    (try simp only [Act.put, List.setIfInBounds_toArray, List.set_cons_zero, List.set_cons_succ])
    (refine takeL (i := 12) (v := ?_) rfl (by kernel_rfl) (by decide +kernel) (by decide +kernel) (fun _ _ _ h => h) (Or.inl ⟨by rfl, ?_⟩) (by assumption) ?_; rotate_left; (focus (intro w9 hS9; (try dsimp only at hS9); go_simp; (try with_reducible rfl); done)))
    (try simp only [Act.put, List.setIfInBounds_toArray, List.set_cons_zero, List.set_cons_succ])
    refine wpAnyH_ready (rs := [13]) (by decide +kernel) (by simp) ?_
    refine consL rfl (fun K hK => ?_) ?_
    · (first | fail | (go_simp; first | done | (first | fail)) | go_simp)
      (first | (with_reducible refine hK.out _ _ ?_ ?_) | (go_wp2_with fail; refine hK.out _ _ ?_ ?_))
      (focus ((first | with_reducible exact hHeld | with_reducible exact q2_set n3 n3 hHeld | with_reducible exact q2_set n2 n2 hHeld | with_reducible exact q2_set n2 n2 (q2_set n3 n3 hHeld))))
      clear hK K hHeld
      intro hHeld
      (try simp only [Act.put, List.setIfInBounds_toArray, List.set_cons_zero, List.set_cons_succ])
      refine wpAnyH_done (by decide +kernel) ?_ _
      go_upto_region 5 with fail
      refine wp_named3 (fun Y => HT B hb N kb pb (.slice (some ⟨g, 0, none⟩) os.length c) ks os xp w ((swP ps os p last).set xp.toNat 0) ((swO os p last).take last) (.slice (some ⟨g, 0, none⟩) last c) Y) ?_ ?_
      · refine ⟨?_, (HX.out.setP _).setK _, ?_, Bset (Bset HXB.out HPB.out) HKB.out⟩
        · have := HPS.out
          rw [HTL.out] at this
          exact this.drop
        · refine (List.perm_append_comm (l₁ := [xp])).trans ?_
          rw [← HTL.out]
          exact HPM.out
      rintro Y hY
      have HY := Lib.hid hY
      have HYL : Hid (((swO os p last).take last).length = last) := Lib.hid (by rw [List.length_take, swO_len]; have := HL.out; omega)
      clear h0 h1 h2 hf cp fp ck fk hY hHeld
      by_cases hpe : p < last
      · have hpe' : (p : Int) < (last : Int) := by omega
        have HST := Lib.hid (heap_settle p hN HY.out.p HY.out.r (by rw [HYL.out]; exact hpe))
        go_wp2_with (go_at_call 83; refine HST.out.mono ?_; rintro e w4 ⟨rfl, ps', os', hk⟩; have HK4 := Lib.hid hk; clear hk)
        go_end0
        exact ⟨rfl, ps', os', _, HK4.out.p, HK4.out.r, (HK4.out.m.cons _).trans HY.out.m, HY.out.b.trans HK4.out.b⟩
      · have hpe' : ¬ (p : Int) < (last : Int) := by omega
        go_wp2_with fail
        go_end0
        exact ⟨rfl, _, _, _, HY.out⟩
    exact AllReadyH.nil
  exact AllReadyH.nil
end
end Go.Proofs.Ytdnjflpmbnjgeaa
