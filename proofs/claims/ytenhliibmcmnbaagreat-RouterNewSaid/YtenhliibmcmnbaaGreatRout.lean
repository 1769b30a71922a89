/-
  table.Routes where all arcs are down.
-/
import Derived.Test.YtenhliibmcmnbaaGreatDagN
import Derived.Test.YtenhliibmcmnbaaGreatRtJ
import Derived.Test.YtenhliibmcmnbaaGreatRtS
namespace Go.Proofs.YtenhliibmcmnbaaGreat
set_option linter.unusedSimpArgs false
set_option linter.unusedVariables false
open Go.RowKit Go.Sort

/-- An entry without arcs. -/
def entV : List Value := [.slice none 0 0, .bool false, .slice none 0 0]
def ents : Nat → List Value
  | 0 => []
  | k + 1 => ents k ++ entV
theorem ents_len (k : Nat) : (ents k).length = k * 3 := by
  induction k with
  | zero => rfl
  | succ k ih => simp only [ents, List.length_append, ih, entV, List.length_cons, List.length_nil]; omega
theorem ents_at : ∀ (n k j : Nat), k < n → j < 3 → (ents n)[k * 3 + j]? = entV[j]?
  | 0, k, j, h, _ => by omega
  | n + 1, k, j, h, hj => by
    have hl := ents_len n
    simp only [ents]
    by_cases e : k = n
    · subst e
      rw [List.getElem?_append_right (by omega)]
      congr 1
      omega
    · rw [List.getElem?_append_left (by omega)]
      exact ents_at n k j (by omega) hj
theorem ent_one : ∀ u ∈ entV, u.oneCell' = true := by
  intro u hu
  simp [entV] at hu
  rcases hu with rfl | rfl | rfl <;> rfl
theorem ents_one (k : Nat) : ∀ u ∈ ents k, u.oneCell' = true := by
  induction k with
  | zero => intro u hu; cases hu
  | succ k ih =>
    intro u hu
    rcases List.mem_append.1 hu with h | h
    · exact ih u h
    · exact ent_one u h
theorem entInfo : (Tryz.prog.info? 115).map (fun i => (i.zero, i.size, i.bytes)) = some (some (.agg #[.slice none 0 0, .bool false, .slice none 0 0]), 3, 56) := by kernel_rfl
theorem own_kp2 {w w' : World} {B : Nat} {E : TypeId} {size : Nat} {v : Value} {n : Nat} {xs : List Value} {sb : Nat} (h : w.ownsRow B E size v n xs) (hk : Kp [sb] w w') (hs : sb < B) : w'.ownsRow B E size v n xs := by
  rcases h with ⟨hl, h0 | ⟨g, cap, cur, hv, hB, hg, rest⟩⟩
  · exact ⟨hl, .inl h0⟩
  · exact ⟨hl, .inr ⟨g, cap, cur, hv, hB, (hk.blk g (Array.getElem?_eq_some_iff.1 hg).1 (by simp; omega)).trans hg, rest⟩⟩
theorem own_base {W : World} {B B' : Nat} {E : TypeId} {size : Nat} {v : Value} {k : Nat} {xs : List Value} (h : W.ownsRow B E size v k xs) (hb : B' ≤ B) : W.ownsRow B' E size v k xs := by
  rcases h with ⟨hl, h0 | ⟨g, cap, cur, hv, hB, rest⟩⟩
  · exact ⟨hl, .inl h0⟩
  · exact ⟨hl, .inr ⟨g, cap, cur, hv, Nat.le_trans hb hB, rest⟩⟩
theorem fits_full (m : Nat) : (decide (m = 0) || decide (m = m)) = true := by simp
section
variable {w : World} {A1 A2 D : Option Addr} {t : Topo}
set_option maxRecDepth 100000 in
set_option maxHeartbeats 4000000 in
theorem table_Routes0 (c1 c2 dc : Nat) (n : Int) (hv : valid t = true) (hn : isN t.n n = true) (hT : TAt w A1 A2 t) (hD : Rd w D ((allD t).map Value.bool)) :
    Calls Tryz.prog 154 #[.agg #[.int .i64 t.n, .slice A1 t.ov.length c1, .slice A2 t.ls.length c2], .slice D (2 * t.ls.length) dc, .int .i64 n] w fun e w' => ∃ (Av Aw : Option Addr) (cv m cw : Nat), e = .returned (.tuple #[.agg #[.int .i64 n, .slice Av t.n.toNat cv, .slice Aw m cw], .int .i64 0]) ∧ w'.ownsRow w.heap.size 115 3 (.slice Av t.n.toNat cv) t.n.toNat (ents t.n.toNat) ∧ Below w.heap.size w w' := by
  obtain ⟨i0, hi, hz0, hz1, hz2⟩ := info_parts entInfo
  obtain ⟨j0, hj, hy0, hy1, hy2⟩ := info_parts intInfo
  have hL := valid_ls hv
  have hN := valid_n hv
  have hX := TBox.start c1 c2 hT
  have HX := Lib.hid (hX.up (below_box _ (.cells #[.int .i64 0, .slice none 0 0, .slice none 0 0] 52)))
  obtain ⟨b0, b1, b2⟩ := HX.out.cells
  have HRS := Lib.hid (two_new w #[.int .i64 t.n, .slice A1 t.ov.length c1, .slice A2 t.ls.length c2] #[.int .i64 0, .slice none 0 0, .slice none 0 0] 25 52).2
  have HV := Lib.hid hv
  have HN := Lib.hid hn
  have HD := Lib.hid hD
  have HF : Hid (∀ W, Calls Tryz.prog 207 #[.agg #[.int .i64 t.n, .slice A1 t.ov.length c1, .slice A2 t.ls.length c2], .slice D (2 * t.ls.length) dc] W fun e w' => e = .returned (.bool true) ∧ Below W.heap.size W w') := Lib.hid fun W => by
    have h := graph_Fits t A1 A2 D c1 c2 (2 * t.ls.length) dc W (by omega)
    rw [fits_full] at h
    exact h
  obtain ⟨N, hNe⟩ : ∃ N, N = t.n.toNat := ⟨_, rfl⟩
  have hNi : (N : Int) = t.n := by omega
  have hN64 : N ≤ 64 := by omega
  rw [← hNe]
  have HNI := Lib.hid hNi
  clear hX hT hv hn hD hNe hNi hN
  go_enter Tryz.func154, Tryz.ntmps154
  go_upto_region 5 with (first | (go_at_call 54; refine (topology_Valid t _ _ _ _ _ HX.out.ta.ls).mono ?_; rw [HV.out]; rintro e w1 ⟨rfl, hb⟩; replace HX := Lib.hid (HX.out.up hb); replace HRS := Lib.hid (HRS.out.up hb); clear hb b0 b1 b2; obtain ⟨b0, b1, b2⟩ := HX.out.cells) | (go_at_call 207; refine (HF.out _).mono ?_; rintro e w2 ⟨rfl, hb⟩; replace HX := Lib.hid (HX.out.up hb); replace HRS := Lib.hid (HRS.out.up hb); clear hb b0 b1 b2; obtain ⟨b0, b1, b2⟩ := HX.out.cells) | (go_at_call 67; refine (graph_Node _ _ _ _ _).mono ?_; rw [HN.out]; rintro e w3 ⟨rfl, hb⟩; replace HX := Lib.hid (HX.out.up hb); replace HRS := Lib.hid (HRS.out.up hb); clear hb b0 b1 b2; obtain ⟨b0, b1, b2⟩ := HX.out.cells))
  have HB0 := Lib.hid (below_box w3 (.cells #[.int .i64 n, .slice none 0 0, .slice none 0 0] 52))
  have HZ0 := Lib.hid (Bl.new w3 #[.int .i64 n, .slice none 0 0, .slice none 0 0] 52)
  have HRL := Lib.hid HRS.out.lt
  go_upto_region 6 with fail
  refine wp_named3 (fun X => Below w3.heap.size w3 X ∧ Bl 52 w3.heap.size #[.int .i64 n, .slice none 0 0, .slice none 0 0] X) ⟨HB0.out, HZ0.out⟩ ?_
  rintro X ⟨hX1, hX2⟩
  clear HB0 HZ0 b0 b1 b2
  have HB0 := Lib.hid hX1
  have HZ0 := Lib.hid hX2
  obtain ⟨b0, b1, b2⟩ := (HX.out.up hX1).cells
  clear hX1 hX2
  go_wp2_with fail
  clear b0 b1 b2
  go_loopw [33] (fun i wr => ∃ (k : Nat) (v : Value), k ≤ N ∧ i = .int .i64 k ∧ Hid (Below w3.heap.size w3 wr) ∧ Hid (Bl 52 w3.heap.size #[.int .i64 n, v, .slice none 0 0] wr) ∧ Hid (wr.ownsRow (w3.heap.size + 1) 115 3 v k (ents k))) (fun i _ => N - (intOf i).toNat)
  case atStart => exact ⟨0, _, Nat.zero_le _, rfl, HB0, HZ0, Lib.hid (World.ownsRow_nil _ _ _ _)⟩
  case round =>
    clear HB0 HZ0
    obtain ⟨k, v, hk, rfl, HB, HZ, HO⟩ := hrel
    have HXR := Lib.hid (HX.out.up HB.out)
    by_cases hlt : k < N
    · obtain ⟨b0, b1, b2⟩ := HXR.out.cells
      have HKN : Hid (isN t.n k = true) := Lib.hid (by rw [isN_true]; have := HNI.out; omega)
      have hkt : (k : Int) < t.n := (isN_true.1 HKN.out).2
      go_upto_region 10 with (go_at_call 208; (with_reducible refine (dag_Next0 _ _ _ n k HV.out HKN.out HN.out HXR.out.ta (HD.out.below HXR.out.hb)).mono ?_); rintro e w8 ⟨rfl, hb⟩; replace HB := Lib.hid (below_next HB.out hb (Nat.le_refl _)); replace HZ := Lib.hid (HZ.out.up hb); replace HO := Lib.hid (own_up HO.out hb); clear hb b0 b1 b2 HXR)
      obtain ⟨z0, z1, z2, fz⟩ := HZ.out.c3
      have HL8 := Lib.hid HZ.out.lt
      have HZA := Lib.hid (HZ.out.up (below_box w8 (.cells #[.slice none 0 0, .bool false, .slice none 0 0] 115)))
      have HBA := Lib.hid (HB.out.alloc (by have := HZ.out.lt; omega) (.cells #[.slice none 0 0, .bool false, .slice none 0 0] 115))
      clear z0 z2
      go_wp2_with (at_builtin; refine wpList_append_lies _ rfl _ _ 49 rfl (w3.heap.size + 1) 115 i0 (.agg #[.slice none 0 0, .bool false, .slice none 0 0]) 3 56 Tryz.underlying49 hi hz0 hz1 hz2 rfl (by decide) _ _ _ rfl (HO.out.alloc _) ⟨_, 0, none⟩ 1 1 entV rfl rfl (World.news_of_block (heap_alloc_new w8 _)) ent_one (by decide) ?c3 ?c4 ?c5 _ rfl ?_)
      case c3 => unfold maxLen; omega
      case c4 => omega
      case c5 => have := HL8.out; simp; omega
      intro g cap W5 ap1 ap2 ap3 ap4
      have hvb : ∀ b, v.ownBlock = some b → w3.heap.size + 1 ≤ b := fun b e => (HO.out.lt b e).1
      have hne : v.ownBlock ≠ some w3.heap.size := fun e => by have := hvb _ e; omega
      have HZ5 := Lib.hid (HZA.out.grown ap2 (fun e => hne e.symm))
      have HB5 := Lib.hid (HBA.out.grown ap2 (by have := HZA.out.lt; omega) (fun b e => by have := hvb b e; omega))
      have HO5 := Lib.hid ap1
      have HG5 : Hid (w3.heap.size + 1 ≤ g) := Lib.hid ((ap1.lt g rfl).1)
      obtain ⟨y0, y1, y2, fy⟩ := HZ5.out.c3
      clear ap1 ap2 ap3 ap4 hvb hne z1 fz y0 y2
      go_wp2_with fail
      go_roundw
      case rel => exact ⟨k + 1, _, by omega, by go_num, Lib.hid (Bset HB5.out (Nat.le_refl _)), Lib.hid (HZ5.out.set 1 _ rfl), Lib.hid (own_setCell HO5.out (by have := HG5.out; simp [Value.ownBlock]; omega) _)⟩
      case measure => simp [intOf]; omega
    · obtain rfl : k = N := by omega
      obtain ⟨b0, b1, b2⟩ := HXR.out.cells
      have hvo : v.ownBlock ≠ some w3.heap.size := fun e => by have := (HO.out.lt _ e).1; omega
      have hkn : ¬ ((k : Int) < t.n) := by have := HNI.out; omega
      have HVO := Lib.hid hvo
      have HWZ := Lib.hid HZ.out.lt
      clear hvo
      go_wp2_with (go_at_call 75; (with_reducible refine (graph_OutO t _ _ _ _ n _ HXR.out.ta (by omega)).mono ?_); rintro e w8 ⟨vo, rfl, hvo, hb⟩; replace HB := Lib.hid (below_next HB.out hb (Nat.le_refl _)); replace HZ := Lib.hid (HZ.out.up hb); replace HO := Lib.hid (own_up HO.out hb); have HVR := Lib.hid hvo; have HWR := Lib.hid HWZ.out; obtain ⟨Ao, co, rfl, _, _, _⟩ := rd_of_own hvo; clear hb hvo b0 b1 b2 HXR)
      generalize hl : ups (outP t n) (2 * t.ls.length) = l at HVR ⊢
      have HLB : Hid (∀ a ∈ l, 0 ≤ a ∧ a < 2 * (t.ls.length : Int)) := Lib.hid (fun a ha => by rw [← hl] at ha; have := mem_ups.1 ha; omega)
      have hll : l.length ≤ 512 := by rw [← hl]; exact Nat.le_trans (ups_le _ _) (by omega)
      clear hl
      have HX3 : Hid (w3.heap.size < w8.heap.size) := Lib.hid HZ.out.lt
      have HVB : Hid (∃ B, w3.heap.size < B ∧ w8.ownsRow B 3 1 (.slice Ao l.length co) l.length (l.map (Value.int .i64))) := Lib.hid ⟨_, Nat.lt_succ_of_lt (by have := HWR.out; exact this), HVR.out⟩
      have HAL : Hid (∀ a : Int, 0 ≤ a → a < 2 * (t.ls.length : Int) → ∀ W, Below w.heap.size w W → Calls Tryz.prog 209 #[.slice D (2 * t.ls.length) dc, .int .i64 a] W fun e w' => e = .returned (.bool true) ∧ Below W.heap.size W w') := Lib.hid fun a h0 h1 W hW => by
        have h := graph_Down D dc (allD t) a W (HD.out.below hW) h0 (.inr (by simp [allD]; exact h1))
        rw [allD_up h0 h1] at h
        simpa [allD] using h
      go_loopg [56] l.length (fun g i wx => ∃ (q : Nat) (v2 : Value), q + g = l.length ∧ i = .int .i64 q ∧ Hid (Kp [w3.heap.size] w8 wx) ∧ Hid (Bl 52 w3.heap.size #[.int .i64 n, v, v2] wx) ∧ Hid (wx.ownsRow w8.heap.size 3 1 v2 q ((l.take q).map (Value.int .i64))))
      case atStart => exact ⟨0, _, by omega, rfl, Lib.hid (Kp.refl _ _), HZ, Lib.hid (World.ownsRow_nil _ _ _ _)⟩
      case round =>
        obtain ⟨q, v2, hqg, rfl, HK, HZ2, HV2⟩ := hrel
        have HBW : Hid (Below w3.heap.size w3 wr) := Lib.hid (Kp.below HK.out HB.out HB.out.size (by simp))
        by_cases hlt : q < l.length
        · have hlt' : (q : Int) < (l.length : Int) := by omega
          obtain ⟨B, hB1, hB2⟩ := HVB.out
          obtain ⟨A', c', e1, _, _, hrd⟩ := rd_of_own (own_kp2 hB2 HK.out hB1)
          injection e1 with e1 _ e3
          subst e1 e3
          obtain ⟨bz, oz, a, rfl, haz, caz⟩ := ints_at hrd hlt
          obtain ⟨a0, a1⟩ := HLB.out a (List.mem_of_getElem? haz)
          have HTK : Hid (l.take (q + 1) = l.take q ++ [a]) := Lib.hid (by rw [List.take_add_one, haz]; rfl)
          have HXW := Lib.hid ((HX.out.up HBW.out).hb)
          clear hrd haz hB1 hB2
          go_upto_region 16 with (go_at_call 209; refine (HAL.out a a0 a1 _ HXW.out).mono ?_; rintro e w9 ⟨rfl, hb⟩; replace HK := Lib.hid (HK.out.next hb); replace HZ2 := Lib.hid (HZ2.out.up hb); replace HV2 := Lib.hid (own_up HV2.out hb); clear hb caz)
          obtain ⟨z0, z1, z2, fz⟩ := HZ2.out.c3
          have HL9 := Lib.hid HZ2.out.lt
          have HS9 := Lib.hid HK.out.size
          have HZA := Lib.hid (HZ2.out.up (below_box w9 (.cells #[.int .i64 a] 3)))
          have HKA := Lib.hid (HK.out.alloc (.cells #[.int .i64 a] 3))
          clear z0 z1
          go_wp2_with (at_builtin; refine wpList_append_lies _ rfl _ _ 50 rfl w8.heap.size 3 j0 (.int .i64 0) 1 8 Tryz.underlying50 hj hy0 hy1 hy2 rfl (by decide) _ _ _ rfl (HV2.out.alloc _) ⟨_, 0, none⟩ 1 1 [.int .i64 a] rfl rfl (cell_one_new _ _ _) ?c2 (by decide) ?c3 ?c4 ?c5 _ rfl ?_)
          case c2 => intro u hu; simp at hu; subst hu; rfl
          case c3 => unfold maxLen; omega
          case c4 => omega
          case c5 => have := HS9.out; simp; omega
          intro g cap W5 ap1 ap2 ap3 ap4
          have hvb : ∀ b, v2.ownBlock = some b → w8.heap.size ≤ b := fun b e => (HV2.out.lt b e).1
          have hne : v2.ownBlock ≠ some w3.heap.size := fun e => by have := hvb _ e; have := HX3.out; omega
          have HZ5 := Lib.hid (HZA.out.grown ap2 (fun e => hne e.symm))
          have HK5 := Lib.hid (HKA.out.grown ap2 (fun b e => .inr (hvb b e)))
          have HO5 := Lib.hid ap1
          have HG5 : Hid (w8.heap.size ≤ g) := Lib.hid ((ap1.lt g rfl).1)
          obtain ⟨y0, y1, y2, fy⟩ := HZ5.out.c3
          clear ap1 ap2 ap3 ap4 hvb hne z2 fz y0 y1
          go_wp2_with fail
          go_roundg (gk - 1)
          case measure => omega
          case rel => exact ⟨q + 1, _, by omega, by go_num, Lib.hid (Kset HK5.out (.inl (by simp))), Lib.hid (HZ5.out.set 2 _ rfl), Lib.hid (by rw [HTK.out, List.map_append, List.map_take]; exact own_setCell (g := w3.heap.size) (j := 2) HO5.out (by have := HG5.out; have := HX3.out; simp [Value.ownBlock]; omega) _)⟩
        · obtain rfl : q = l.length := by omega
          obtain ⟨Av, cv, rfl, _, _, _⟩ := rd_of_ownK HO.out
          obtain ⟨Aw, cw, rfl, _, _, _⟩ := rd_of_ownK HV2.out
          obtain ⟨z0, z1, z2, fz⟩ := HZ2.out.c3
          have HRS2 := Lib.hid (HRS.out.up HBW.out)
          obtain ⟨y0, y1, y2, fy⟩ := HRS2.out.c3
          have HOF := Lib.hid (own_kp2 HO.out HK.out (Nat.lt_succ_self _))
          have HXW := Lib.hid ((HX.out.up HBW.out).hb)
          have n1 : w3.heap.size ≠ w.heap.size + 1 := by have := HRL.out; omega
          have n2 : w.heap.size + 1 ≠ w3.heap.size := by have := HRL.out; omega
          go_wp2_with fail
          have hne : (Value.slice Av k cv).ownBlock ≠ some (w.heap.size + 1) := fun e => by have := (HO.out.lt _ e).1; have := HRL.out; omega
          exact bodyPost_ret (v := .tuple #[.agg #[.int .i64 n, .slice Av k cv, .slice Aw l.length cw], .int .i64 0]) (by simp [results, Tryz.results154, go_sem, y0, y1, y2]) rfl ⟨_, _, _, _, _, rfl, own_base (own_setCell (own_setCell (own_setCell HOF.out hne _) hne _) hne _) (by have := HRL.out; omega), by (repeat' (first | (with_reducible exact HXW.out) | (with_reducible refine Bset ?_ ?_) | (with_reducible refine Bdrw ?_) | (with_reducible refine Bbox ?_ ?_) | omega | (simp; done) | (simp; omega)))⟩
end
end Go.Proofs.YtenhliibmcmnbaaGreat
