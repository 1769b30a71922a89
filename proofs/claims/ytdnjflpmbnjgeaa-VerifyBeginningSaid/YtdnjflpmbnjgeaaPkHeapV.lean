/-
  An indexed queue in memory: Set, Key, Pop (printed by gen_heapv.py).
  A new queue (printed by gen_heapn.py).
-/
import Derived.Test.YtdnjflpmbnjgeaaPkHeapT
import Derived.Deep.AppendLies
import Derived.Test.YtdnjflpmbnjgeaaPkIn
namespace Go.Proofs.Ytdnjflpmbnjgeaa
set_option linter.unusedSimpArgs false
set_option linter.unusedVariables false
open Go.RowKit Go.Sort
section
variable {B hb N kb pb : Nat} {v : Value} {ks ps os : List Int} {w : World}
/-- An item is appended to the held ones. -/
theorem HeapR.app {g cap : Nat} {i : Int} {wa w' : World} (h : HeapR B hb N kb pb v ks ps os wa) (h2 : w'.ownsRow B 3 1 (.slice (some ⟨g, 0, none⟩) (os.length + 1) cap) (os.length + 1) (os.map (Value.int .i64) ++ [.int .i64 i])) (h3 : wa.grownBy w' v.ownBlock) (h4 : v.ownBlock = some g ∨ g = wa.heap.size) :
    HeapR B hb N kb pb (.slice (some ⟨g, 0, none⟩) (os.length + 1) cap) ks ps (os ++ [i]) (w'.setCell ⟨hb, 2, none⟩ (.slice (some ⟨g, 0, none⟩) (os.length + 1) cap)) := by
  obtain ⟨n1, n2, n3, n4, n5, n6, n7⟩ := h.ne
  have k1 := (h.k.lt kb rfl).2
  have k2 := (h.p.lt pb rfl).2
  have k3 := h.h.lt
  have m1 : g ≠ kb := by
    rcases h4 with e | e
    · exact fun e' => n4 (e' ▸ e)
    · omega
  have m2 : g ≠ pb := by
    rcases h4 with e | e
    · exact fun e' => n5 (e' ▸ e)
    · omega
  have m3 : g ≠ hb := by
    rcases h4 with e | e
    · exact fun e' => n6 (e' ▸ e)
    · omega
  have hk := h.k.kept h3 (.inr (fun e => n4 (by simpa [Value.ownBlock] using e.symm)))
  have hp := h.p.kept h3 (.inr (fun e => n5 (by simpa [Value.ownBlock] using e.symm)))
  refine ⟨((h.h.grown h3 (fun e => n6 e.symm)).set 2 _ rfl), own_setCell hk (by simpa [Value.ownBlock] using n2) _, own_setCell hp (by simpa [Value.ownBlock] using n3) _, ?_, n1, n2, n3, by simpa [Value.ownBlock] using m1, by simpa [Value.ownBlock] using m2, by simpa [Value.ownBlock] using m3, n7⟩
  have h5 := own_setCell (j := 2) h2 (show (Value.slice (some ⟨g, 0, none⟩) (os.length + 1) cap).ownBlock ≠ some hb by simpa [Value.ownBlock] using m3) (.slice (some ⟨g, 0, none⟩) (os.length + 1) cap)
  rw [List.map_append, List.length_append]
  exact h5
theorem below_app {wa w' : World} (h : HeapR B hb N kb pb v ks ps os wa) (h3 : wa.grownBy w' v.ownBlock) : Below B wa w' :=
  (Below.refl B wa).grown h3 (Nat.le_trans h.ne.2.2.2.2.2.2 (Nat.le_of_lt h.h.lt)) (fun k hk => (h.o.lt k hk).1)
set_option maxRecDepth 100000 in
set_option maxHeartbeats 4000000 in
theorem heap_Set_new (i key : Int) (hN : N ≤ 65536) (h : HP N ks ps os) (H : HeapR B hb N kb pb v ks ps os w) (h0 : 0 ≤ i) (h1 : i < (N : Int)) (hn : ps[i.toNat]? = some 0) :
    Calls Try.prog 77 #[.pointer (some ⟨hb, 0, none⟩), .int .i64 i, .int .i64 key] w fun e w' => e = .returned (.int .i64 0) ∧ ∃ v' ps' os', HK B hb N kb pb v' (ks.set i.toNat key) (os ++ [i]) w ps' os' w' := by
  obtain ⟨i0, hi, hz0, hz1, hz2⟩ := info_parts intInfo
  have hle := h.le
  have hle1 := (h.push (key := key) h0 h1 hn).le
  have HPP := Lib.hid (h.push (key := key) h0 h1 hn)
  have hip : ps.getD i.toNat 0 = 0 := by rw [List.getD_eq_getElem?_getD, hn]; rfl
  obtain ⟨b0, b1, b2, bf⟩ := H.h.c3
  obtain ⟨ck, fk⟩ := own_int H.k (k := i.toNat) (by omega)
  have H1 := H.setK (k := i.toNat) key
  have HH1 := Lib.hid H1
  have HKB := Lib.hid H.kB
  have HPB := Lib.hid H.pB
  have cp := (own_int H1.p (k := i.toNat) (by omega)).1
  rw [hip] at cp
  have HIP := Lib.hid hip
  obtain ⟨n1, n2, n3, n4, n5, n6, n7⟩ := H.ne
  have NE := Lib.hid H.ne
  have n8 := n1.symm
  have HW := Lib.hid (H.h.lt)
  have HLE := Lib.hid hle
  rw [List.length_append] at hle1
  simp only [List.length_cons, List.length_nil] at hle1
  clear h H hn hip H1 n4 n5 n6
  go_enter Try.func77, Try.ntmps77
  go_upto_region 6 with fail
  refine wp_named3 (fun X => HeapR B hb N kb pb v (ks.set i.toNat key) ps os X ∧ Below B w X) ⟨HH1.out, Bset (Below.refl B w) HKB.out⟩ ?_
  rintro X ⟨hX, hXB⟩
  have HX := Lib.hid hX
  have HXB := Lib.hid hXB
  clear b0 b1 b2 bf ck fk cp HH1 hX hXB
  obtain ⟨b0, b1, b2, bf⟩ := HX.out.h.c3
  have cp := (own_int HX.out.p (k := i.toNat) (by omega)).1
  rw [HIP.out] at cp
  go_upto_region 7 with fail
  have HA := Lib.hid (HX.out.up (below_box X (.cells #[.int .i64 i] 3)))
  have HAB := Lib.hid (HXB.out.alloc (Nat.le_trans NE.out.2.2.2.2.2.2 (Nat.le_of_lt HX.out.h.lt)) (.cells #[.int .i64 i] 3))
  clear cp b0 b1
  go_wp2_with (at_builtin; refine wpList_append_lies _ rfl _ _ 58 rfl B 3 i0 (.int .i64 0) 1 8 Try.underlying58 hi hz0 hz1 hz2 rfl (by decide) _ _ _ rfl (HX.out.o.alloc _) ⟨_, 0, none⟩ 1 1 [.int .i64 i] rfl rfl (cell_one_new _ _ _) ?c2 (by decide) ?c3 ?c4 ?c5 _ rfl ?_)
  case c2 => intro u hu; simp at hu; subst hu; rfl
  case c3 => have := HLE.out; unfold maxLen; omega
  case c4 => have := HLE.out; omega
  case c5 => have := NE.out.2.2.2.2.2.2; have := HX.out.h.lt; simp; omega
  intro g cap W5 ap1 ap2 ap3 ap4
  have HR5 := Lib.hid (HA.out.app ap1 ap2 (by simpa using ap3))
  have HB5 := Lib.hid (HAB.out.trans (below_app HA.out ap2))
  obtain ⟨_, _, c2, cf⟩ := (HA.out.h.grown ap2 (fun e => NE.out.2.2.2.2.2.1 e.symm)).c3
  clear ap1 ap2 ap3 ap4 b2 bf
  go_upto_region 8 with fail
  refine wp_named3 (fun Y => HeapR B hb N kb pb (.slice (some ⟨g, 0, none⟩) (os.length + 1) cap) (ks.set i.toNat key) ps (os ++ [i]) Y ∧ Below B w Y) ⟨HR5.out, Bset HB5.out NE.out.2.2.2.2.2.2⟩ ?_
  rintro Y ⟨hY, hYB⟩
  obtain ⟨W1, hW1⟩ : ∃ W1, W1 = Y.drew := ⟨_, rfl⟩
  have HY := Lib.hid (hW1 ▸ hY.up (Bdrw (Below.refl _ _)) : HeapR B hb N kb pb (.slice (some ⟨g, 0, none⟩) (os.length + 1) cap) (ks.set i.toNat key) ps (os ++ [i]) W1)
  have HYB := Lib.hid (hW1 ▸ Bdrw hYB : Below B w W1)
  clear c2 cf hY hYB
  obtain ⟨b0, b1, b2, bf⟩ := HY.out.h.c3
  obtain ⟨cp, fp⟩ := own_int HY.out.p (k := i.toNat) (by omega)
  refine wp_region_held_drew (S := (fun w' => w'.cell? ⟨hb, 1, none⟩ = some (.slice (some ⟨pb, 0, none⟩) N N) ∧ w'.cell? ⟨hb, 2, none⟩ = some (.slice (some ⟨g, 0, none⟩) (os.length + 1) cap))) (by kernel_rfl) ?_ (fun hHeld => ?_)
  · exact hW1 ▸ ⟨b1, b2⟩
  rw [← hW1] at hHeld ⊢
  clear hW1
  (refine takeL (i := 0) (v := ?_) rfl (by kernel_rfl) (by decide +kernel) (by decide +kernel) (fun _ _ _ h => h) (Or.inl ⟨by rfl, ?_⟩) (by assumption) ?_; rotate_left; (focus (intro w9 hS9; (try dsimp only at hS9); go_simp; (try with_reducible rfl); done)))
  (try simp only [Act.put, List.setIfInBounds_toArray, List.set_cons_zero, List.set_cons_succ])
  (refine takeL (i := 1) (v := ?_) rfl (by kernel_rfl) (by decide +kernel) (by decide +kernel) (fun _ _ _ h => h) (Or.inl ⟨by rfl, ?_⟩) (by assumption) ?_; rotate_left; (focus (intro w9 hS9; (try dsimp only at hS9); go_simp; (try with_reducible rfl); done)))
  (try simp only [Act.put, List.setIfInBounds_toArray, List.set_cons_zero, List.set_cons_succ])
  (refine takeL (i := 2) (v := ?_) rfl (by kernel_rfl) (by decide +kernel) (by decide +kernel) (fun _ _ _ h => h) (Or.inl ⟨by rfl, ?_⟩) (by assumption) ?_; rotate_left; (focus (intro w9 hS9; (try dsimp only at hS9); go_simp; (try with_reducible rfl); done)))
  (try simp only [Act.put, List.setIfInBounds_toArray, List.set_cons_zero, List.set_cons_succ])
  (refine takeL (i := 3) (v := ?_) rfl (by kernel_rfl) (by decide +kernel) (by decide +kernel) (fun _ _ _ h => h) (Or.inl ⟨by rfl, ?_⟩) (by assumption) ?_; rotate_left; (focus (intro w9 hS9; (try dsimp only at hS9); go_simp; (try with_reducible rfl); done)))
  (try simp only [Act.put, List.setIfInBounds_toArray, List.set_cons_zero, List.set_cons_succ])
  (refine takeL (i := 4) (v := ?_) rfl (by kernel_rfl) (by decide +kernel) (by decide +kernel) (fun _ _ _ h => h) (Or.inl ⟨by rfl, ?_⟩) (by assumption) ?_; rotate_left; (focus (intro w9 hS9; (try dsimp only at hS9); go_simp; (try with_reducible rfl); done)))
  (try simp only [Act.put, List.setIfInBounds_toArray, List.set_cons_zero, List.set_cons_succ])
  (refine takeL (i := 5) (v := ?_) rfl (by kernel_rfl) (by decide +kernel) (by decide +kernel) (fun _ _ _ h => h) (Or.inl ⟨by rfl, ?_⟩) (by assumption) ?_; rotate_left; (focus (intro w9 hS9; (try dsimp only at hS9); go_simp; (try with_reducible rfl); done)))
  (try simp only [Act.put, List.setIfInBounds_toArray, List.set_cons_zero, List.set_cons_succ])
  (refine takeL (i := 6) (v := ?_) rfl (by kernel_rfl) (by decide +kernel) (by decide +kernel) (fun _ _ _ h => h) (Or.inl ⟨by rfl, ?_⟩) (by assumption) ?_; rotate_left; (focus (intro w9 hS9; (try dsimp only at hS9); go_simp; (try with_reducible rfl); done)))
  (try simp only [Act.put, List.setIfInBounds_toArray, List.set_cons_zero, List.set_cons_succ])
  (refine takeL (i := 7) (v := ?_) rfl (by kernel_rfl) (by decide +kernel) (by decide +kernel) (fun _ _ _ h => h) (Or.inl ⟨by rfl, ?_⟩) (by assumption) ?_; rotate_left; (focus (intro w9 hS9; (try dsimp only at hS9); go_simp; (try with_reducible rfl); done)))
  (try simp only [Act.put, List.setIfInBounds_toArray, List.set_cons_zero, List.set_cons_succ])
  (refine takeL (i := 8) (v := ?_) rfl (by kernel_rfl) (by decide +kernel) (by decide +kernel) (fun _ _ _ h => h) (Or.inl ⟨by rfl, ?_⟩) (by assumption) ?_; rotate_left; (focus (intro w9 hS9; (try dsimp only at hS9); go_simp; (try with_reducible rfl); done)))
  (try simp only [Act.put, List.setIfInBounds_toArray, List.set_cons_zero, List.set_cons_succ])
  (refine takeL (i := 9) (v := ?_) rfl (by kernel_rfl) (by decide +kernel) (by decide +kernel) (fun _ _ _ h => h) (Or.inl ⟨by rfl, ?_⟩) (by assumption) ?_; rotate_left; (focus (intro w9 hS9; (try dsimp only at hS9); go_simp; (try with_reducible rfl); done)))
  (try simp only [Act.put, List.setIfInBounds_toArray, List.set_cons_zero, List.set_cons_succ])
  (refine takeL (i := 10) (v := ?_) rfl (by kernel_rfl) (by decide +kernel) (by decide +kernel) (fun _ _ _ h => h) (Or.inl ⟨by rfl, ?_⟩) (by assumption) ?_; rotate_left; (focus (intro w9 hS9; (try dsimp only at hS9); go_simp; (try with_reducible rfl); done)))
  (try simp only [Act.put, List.setIfInBounds_toArray, List.set_cons_zero, List.set_cons_succ])
  refine wpAnyH_ready (rs := [11]) (by decide +kernel) (by simp) ?_
  refine consL rfl (fun K hK => ?_) ?_
  · (first | fail | (go_simp; first | done | (first | fail)) | go_simp)
    (first | (with_reducible refine hK.out _ _ ?_ ?_) | (go_wp2_with fail; refine hK.out _ _ ?_ ?_))
    (focus ((first | with_reducible exact hHeld | with_reducible exact q2_set n3 n3 hHeld)))
    clear hK K hHeld
    intro hHeld
    (try simp only [Act.put, List.setIfInBounds_toArray, List.set_cons_zero, List.set_cons_succ])
    refine wpAnyH_done (by decide +kernel) ?_ _
    go_upto_region 9 with fail
    refine wp_named3 (fun Z => HeapR B hb N kb pb (.slice (some ⟨g, 0, none⟩) (os.length + 1) cap) (ks.set i.toNat key) (ps.set i.toNat (((os.length + 1 : Nat) : Int))) (os ++ [i]) Z ∧ Below B w Z) ⟨HY.out.setP _, Bset HYB.out HPB.out⟩ ?_
    rintro Z ⟨hZ, hZB⟩
    have HZ := Lib.hid hZ
    have HZB := Lib.hid hZB
    clear b0 b1 b2 bf cp fp hZ hZB hHeld
    obtain ⟨b0, b1, b2, bf⟩ := HZ.out.h.c3
    have cp := (own_int HZ.out.p (k := i.toNat) (by omega)).1
    rw [show (ps.set i.toNat (((os.length + 1 : Nat) : Int))).getD i.toNat 0 = ((os.length + 1 : Nat) : Int) by rw [List.getD_eq_getElem?_getD, List.getElem?_set_self (by have := HPP.out.pl; rw [List.length_set] at this; omega)]; rfl] at cp
    have HST := Lib.hid (heap_settle os.length hN HPP.out HZ.out (by simp))
    go_wp2_with (go_at_call 83; refine HST.out.mono ?_; rintro e w4 ⟨rfl, ps', os', hk⟩; have HK4 := Lib.hid hk; clear hk)
    go_ret
    exact ⟨rfl, _, ps', os', HK4.out.p, HK4.out.r, HK4.out.m, HZB.out.trans HK4.out.b⟩
  exact AllReadyH.nil
set_option maxRecDepth 100000 in
set_option maxHeartbeats 4000000 in
theorem heap_Set_old (i key : Int) (p : Nat) (hN : N ≤ 65536) (h : HP N ks ps os) (H : HeapR B hb N kb pb v ks ps os w) (h0 : 0 ≤ i) (h1 : i < (N : Int)) (hp : ps[i.toNat]? = some ((p : Int) + 1)) (hpl : p < os.length) :
    Calls Try.prog 77 #[.pointer (some ⟨hb, 0, none⟩), .int .i64 i, .int .i64 key] w fun e w' => e = .returned (.int .i64 0) ∧ ∃ v' ps' os', HK B hb N kb pb v' (ks.set i.toNat key) os w ps' os' w' := by
  have hle := h.le
  have HPP := Lib.hid (h.key i.toNat key)
  have hip : ps.getD i.toNat 0 = (p : Int) + 1 := by rw [List.getD_eq_getElem?_getD, hp]; rfl
  obtain ⟨b0, b1, b2, bf⟩ := H.h.c3
  obtain ⟨ck, fk⟩ := own_int H.k (k := i.toNat) (by omega)
  have H1 := H.setK (k := i.toNat) key
  have HH1 := Lib.hid H1
  have HKB := Lib.hid H.kB
  obtain ⟨n1, n2, n3, n4, n5, n6, n7⟩ := H.ne
  have n8 := n1.symm
  have HIP := Lib.hid hip
  have hpz : ((p : Int) + 1 == 0) = false := by simp; omega
  have HPL := Lib.hid hpl
  clear h H hip H1 n4 n5 n6 hp
  go_enter Try.func77, Try.ntmps77
  go_upto_region 6 with fail
  refine wp_named3 (fun X => HeapR B hb N kb pb v (ks.set i.toNat key) ps os X ∧ Below B w X) ⟨HH1.out, Bset (Below.refl B w) HKB.out⟩ ?_
  rintro X ⟨hX, hXB⟩
  have HX := Lib.hid hX
  have HXB := Lib.hid hXB
  clear b0 b1 b2 bf ck fk HH1 hX hXB
  obtain ⟨b0, b1, b2, bf⟩ := HX.out.h.c3
  have cp := (own_int HX.out.p (k := i.toNat) (by omega)).1
  rw [HIP.out] at cp
  have HST := Lib.hid (heap_settle p hN HPP.out HX.out HPL.out)
  go_wp2_with (go_at_call 83; refine HST.out.mono ?_; rintro e w4 ⟨rfl, ps', os', hk⟩; have HK4 := Lib.hid hk; clear hk)
  go_ret
  exact ⟨rfl, _, ps', os', HK4.out.p, HK4.out.r, HK4.out.m, HXB.out.trans HK4.out.b⟩
/-- Set, at any item. -/
theorem heap_Set (i key : Int) (hN : N ≤ 65536) (h : HP N ks ps os) (H : HeapR B hb N kb pb v ks ps os w) (h0 : 0 ≤ i) (h1 : i < (N : Int)) :
    Calls Try.prog 77 #[.pointer (some ⟨hb, 0, none⟩), .int .i64 i, .int .i64 key] w fun e w' => e = .returned (.int .i64 0) ∧ ∃ v' ps' os', HK B hb N kb pb v' (ks.set i.toNat key) (if i ∈ os then os else os ++ [i]) w ps' os' w' := by
  have hi : ((i.toNat : Nat) : Int) = i := by omega
  rcases h.b i.toNat (by omega) with e | ⟨p, e, hp⟩
  · have hm : i ∉ os := fun hm => by
      have := (h.held_iff h0 h1).2 hm
      unfold held at this
      rw [List.getD_eq_getElem?_getD, e] at this
      cases this
    rw [if_neg hm]
    exact heap_Set_new i key hN h H h0 h1 e
  · have hm : i ∈ os := by rw [← hi]; exact List.mem_of_getElem? hp
    rw [if_pos hm]
    exact heap_Set_old i key p hN h H h0 h1 e (List.getElem?_eq_some_iff.1 hp).1
set_option maxRecDepth 100000 in
set_option maxHeartbeats 4000000 in
theorem heap_Key (i : Int) (hN : N ≤ 65536) (h : HP N ks ps os) (H : HeapR B hb N kb pb v ks ps os w) (h0 : 0 ≤ i) (h1 : i < (N : Int)) :
    Calls Try.prog 82 #[.pointer (some ⟨hb, 0, none⟩), .int .i64 i] w fun e w' => e = .returned (.tuple #[.int .i64 (if i ∈ os then ks.getD i.toNat 0 else 0), .bool (decide (i ∈ os))]) ∧ Below w.heap.size w w' := by
  have hi : ((i.toNat : Nat) : Int) = i := by omega
  obtain ⟨b0, b1, b2, bf⟩ := H.h.c3
  obtain ⟨ck, fk⟩ := own_int H.k (k := i.toNat) (by omega)
  have cp := (own_int H.p (k := i.toNat) (by omega)).1
  rcases h.b i.toNat (by omega) with e | ⟨p, e, hp⟩
  · have hm : i ∉ os := fun hm => by
      have := (h.held_iff h0 h1).2 hm
      unfold held at this
      rw [List.getD_eq_getElem?_getD, e] at this
      cases this
    rw [show ps.getD i.toNat 0 = 0 by rw [List.getD_eq_getElem?_getD, e]; rfl] at cp
    simp only [hm, if_false, decide_false]
    clear h H hm e ck fk hi bf
    go_enter Try.func82, Try.ntmps82
    go_wp2_with fail
    go_ret2
    exact ⟨rfl, Below.refl _ _⟩
  · have hm : i ∈ os := by rw [← hi]; exact List.mem_of_getElem? hp
    rw [show ps.getD i.toNat 0 = (p : Int) + 1 by rw [List.getD_eq_getElem?_getD, e]; rfl] at cp
    have hpz : ((p : Int) + 1 == 0) = false := by simp; omega
    simp only [hm, if_true, decide_true]
    clear h H hm e hp hi bf
    go_enter Try.func82, Try.ntmps82
    go_wp2_with fail
    go_ret2
    exact ⟨rfl, Below.refl _ _⟩
set_option maxRecDepth 100000 in
set_option maxHeartbeats 4000000 in
theorem heap_Pop_none (H : HeapR B hb N kb pb v ks ps [] w) :
    Calls Try.prog 78 #[.pointer (some ⟨hb, 0, none⟩)] w fun e w' => e = .returned (.tuple #[.int .i64 0, .int .i64 0, .bool false]) ∧ Below w.heap.size w w' := by
  obtain ⟨b0, b1, b2, bf⟩ := H.h.c3
  obtain ⟨A, c, rfl⟩ : ∃ A c, v = .slice A 0 c := by
    rcases H.o.2 with ⟨rfl, _⟩ | ⟨g, cap, cur, rfl, _⟩
    · exact ⟨none, 0, rfl⟩
    · exact ⟨_, cap, rfl⟩
  clear H bf b0 b1
  go_enter Try.func78, Try.ntmps78
  go_wp2_with fail
  exact bodyPost_ret (v := .tuple #[.int .i64 0, .int .i64 0, .bool false]) (by simp [results, Try.results78, go_sem]) rfl ⟨rfl, Below.refl _ _⟩
set_option maxRecDepth 100000 in
set_option maxHeartbeats 4000000 in
theorem heap_Pop_some (hN : N ≤ 65536) (h : HP N ks ps os) (H : HeapR B hb N kb pb v ks ps os w) (hl : 0 < os.length) :
    Calls Try.prog 78 #[.pointer (some ⟨hb, 0, none⟩)] w fun e w' => ∃ i, i ∈ os ∧ e = .returned (.tuple #[.int .i64 i, .int .i64 (ks.getD i.toNat 0), .bool true]) ∧ ∃ ps' os' v', HT B hb N kb pb v ks os i w ps' os' v' w' := by
  obtain ⟨b0, b1, b2, bf⟩ := H.h.c3
  obtain ⟨g, c, rfl, hgc, hg⟩ := own_at H.o hl
  have i0 := (own_int H.o hl).1
  have a0 := h.a 0 _ (getD_some hl)
  have HTK := Lib.hid (heap_take 0 hN h H hl)
  have HM : Hid (os.getD 0 0 ∈ os) := Lib.hid (List.mem_of_getElem? (getD_some hl))
  generalize os.getD 0 0 = i at *
  obtain ⟨a1, a2, _⟩ := a0
  obtain ⟨ck, fk⟩ := own_int H.k (k := i.toNat) (by omega)
  have hl' : (0 : Int) < (os.length : Int) := by omega
  have hlz : ((os.length : Int) == 0) = false := beq_eq_false_iff_ne.2 (by omega)
  obtain ⟨key, hkey⟩ : ∃ key, key = ks.getD i.toNat 0 := ⟨_, rfl⟩
  rw [← hkey] at ck
  have HKY := Lib.hid hkey
  clear hkey
  clear h H hg hgc bf b1 fk
  go_enter Try.func78, Try.ntmps78
  go_wp2_with (go_at_call 84; refine HTK.out.mono ?_; rintro e w4 ⟨rfl, ps', os', v', hk⟩; have HK4 := Lib.hid hk; clear hk)
  exact bodyPost_ret (v := .tuple #[.int .i64 i, .int .i64 key, .bool true]) (by simp [results, Try.results78, go_sem]) rfl ⟨i, HM.out, by rw [HKY.out], ps', os', v', HK4.out⟩
end
end Go.Proofs.Ytdnjflpmbnjgeaa
namespace Go.Proofs.Ytdnjflpmbnjgeaa
set_option linter.unusedSimpArgs false
set_option linter.unusedVariables false
open Go.RowKit Go.Sort
/-- make([]int, n): the world behind it. -/
def mkI (n : Nat) (w : World) : World := w.alloc (.cells (madeCells #[.int .i64 0] n) 3)
theorem run_mkI (n : Nat) (h : n ≤ 1000000) (w : World) : (Instr.makeSlice 58 (.int .i64 (n : Int)) (.int .i64 (n : Int))).run Try.prog w = .ok (.slice (some ⟨w.heap.size, 0, none⟩) n n) (mkI n w) := by
  obtain ⟨i0, hi, hz0, hz1, hz2⟩ := info_parts intInfo
  have hr := run_make (P := Try.prog) w 58 3 i0 (.int .i64 0) Try.underlying58 hi hz0 .i64 .i64 (n : Int) (n : Int) (by omega) (Int.le_refl _) (by rw [hz2]; omega) (by omega)
  rw [hr, hz1, show ((n : Int)).toNat = n by omega, Nat.mul_one]
  rfl
theorem mkI_below (n : Nat) (w : World) : Below w.heap.size w (mkI n w) := below_box w _
theorem mkI_own (n : Nat) (h : n ≤ 1000000) (w : World) (base : Nat) (hb : base ≤ w.heap.size) : (mkI n w).ownsRow base 3 1 (.slice (some ⟨w.heap.size, 0, none⟩) n n) n ((List.replicate n (0 : Int)).map (Value.int .i64)) := by
  refine ⟨by simp, .inr ⟨w.heap.size, n, _, by simp, hb, heap_alloc_new w _, by simp, by unfold maxLen; omega, by simp [size_madeCells], ?_⟩⟩
  rw [toList_madeCells_one]
  simp
theorem heapR_new {w W : World} {kb pb N : Nat} (o1 : W.ownsRow w.heap.size 3 1 (.slice (some ⟨kb, 0, none⟩) N N) N ((List.replicate N (0 : Int)).map (Value.int .i64))) (o2 : W.ownsRow w.heap.size 3 1 (.slice (some ⟨pb, 0, none⟩) N N) N ((List.replicate N (0 : Int)).map (Value.int .i64))) (s2 : W.heap.size = w.heap.size + 2)
    (hnil : ∀ W : World, W.ownsRow w.heap.size 3 1 (.slice none 0 0) ([] : List Int).length (([] : List Int).map (Value.int .i64))) (n1 : kb ≠ pb) (n2 : kb ≠ w.heap.size + 2) (n3 : pb ≠ w.heap.size + 2) :
    HeapR w.heap.size (w.heap.size + 2) N kb pb (.slice none 0 0) (List.replicate N 0) (List.replicate N 0) [] (W.alloc (.cells #[.slice (some ⟨kb, 0, none⟩) N N, .slice (some ⟨pb, 0, none⟩) N N, .slice none 0 0] 141)) :=
  ⟨s2 ▸ Bl.new W _ _, own_up o1 (below_box W _), own_up o2 (below_box W _), hnil _, n1, n2, n3, by simp [Value.ownBlock], by simp [Value.ownBlock], by simp [Value.ownBlock], by omega⟩
set_option maxRecDepth 100000 in
set_option maxHeartbeats 4000000 in
theorem heap_New0 (N : Nat) (hN : N ≤ 65536) (w : World) :
    Calls Try.prog 76 #[.int .i64 N] w fun e w' => ∃ hb kb pb, e = .returned (.tuple #[.pointer (some ⟨hb, 0, none⟩), .int .i64 0]) ∧ HeapR w.heap.size hb N kb pb (.slice none 0 0) (List.replicate N 0) (List.replicate N 0) [] w' ∧ Below w.heap.size w w' := by
  have hmk : ∀ W, (Instr.makeSlice 58 (.int .i64 (N : Int)) (.int .i64 (N : Int))).run Try.prog W = .ok (.slice (some ⟨W.heap.size, 0, none⟩) N N) (mkI N W) := fun W => run_mkI N (by omega) W
  have h1 : ¬ ((N : Int) < 0) := by omega
  have h2 : ¬ ((65536 : Int) < (N : Int)) := by omega
  have HN := Lib.hid hN
  go_enter Try.func76, Try.ntmps76
  go_wp2_with fail
  go_region
  all_goals
    go_wp2_with fail
    go_ret2
    have b1 := mkI_below N w.drew
    have b2 := mkI_below N (mkI N w.drew)
    have s1 : (mkI N w.drew).heap.size = w.heap.size + 1 := by simp [mkI]
    have s2 : (mkI N (mkI N w.drew)).heap.size = w.heap.size + 2 := by simp [mkI]
    have o1 := mkI_own N (by have := HN.out; omega) w.drew w.heap.size (by simp)
    have o2 := mkI_own N (by have := HN.out; omega) (mkI N w.drew) w.heap.size (by simp [mkI])
    have o3 := own_up o1 b2
    have hx : Below w.heap.size w (mkI N (mkI N w.drew)) := (Bdrw (Below.refl _ w)).trans ((b1.mono (by simp)).trans (b2.mono (by rw [s1]; omega)))
    rw [s1] at o2
    simp only [World.size_drew] at o1 o3
    have hnil : ∀ W : World, W.ownsRow w.heap.size 3 1 (.slice none 0 0) ([] : List Int).length (([] : List Int).map (Value.int .i64)) := fun W => World.ownsRow_nil _ _ _ _
    have HA := heapR_new (w := w) o3 o2 s2 hnil
    have HB := heapR_new (w := w) o2 o3 s2 hnil
    have hbx : Below w.heap.size w ((mkI N (mkI N w.drew)).alloc (.cells #[.slice (some ⟨w.heap.size, 0, none⟩) N N, .slice (some ⟨w.heap.size + 1, 0, none⟩) N N, .slice none 0 0] 141)) := hx.alloc (by rw [s2]; omega) _
    have hby : Below w.heap.size w ((mkI N (mkI N w.drew)).alloc (.cells #[.slice (some ⟨w.heap.size + 1, 0, none⟩) N N, .slice (some ⟨w.heap.size, 0, none⟩) N N, .slice none 0 0] 141)) := hx.alloc (by rw [s2]; omega) _
    simp only [s1, s2]
    first
      | exact ⟨w.heap.size + 2, w.heap.size, w.heap.size + 1, rfl, HA (by omega) (by omega) (by omega), hbx⟩
      | exact ⟨w.heap.size + 2, w.heap.size + 1, w.heap.size, rfl, HB (by omega) (by omega) (by omega), hby⟩
end Go.Proofs.Ytdnjflpmbnjgeaa
