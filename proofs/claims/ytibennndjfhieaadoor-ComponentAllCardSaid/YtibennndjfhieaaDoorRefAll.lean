/-
  waypointref10.All: what it returns, for every topology.
-/
import Derived.Test.YtibennndjfhieaaDoorRef10
import Derived.Test.YtibennndjfhieaaDoorAll
namespace Go.Proofs.YtibennndjfhieaaDoor
open Go.RowKit Go.Sort

theorem ups_any (p : Int → Bool) : ∀ n : Nat, decide (0 < (ups p n).length) = (List.range n).any fun i => p (i : Int)
  | 0 => rfl
  | n + 1 => by
    have ih := ups_any p n
    rw [List.range_succ, List.any_append, ← ih]
    cases h : p n with
    | true => rw [ups_hit h]; simp [h]
    | false => rw [ups_miss h]; simp [h]
theorem used_links (t : Topo) (g : Nat) : (List.range t.ls.length).any (fun i => part t 3 g (i : Int)) = usedK t t.ls.length g := by
  unfold usedK
  rw [List.take_length, Bool.eq_iff_iff]
  simp only [List.any_eq_true, List.mem_range]
  constructor
  · rintro ⟨i, hi, h⟩
    rw [part3 (List.getElem?_eq_getElem hi)] at h
    exact ⟨_, List.getElem_mem hi, h⟩
  · rintro ⟨l, hl, h⟩
    obtain ⟨i, hi, rfl⟩ := List.getElem_of_mem hl
    exact ⟨i, hi, by rw [part3 (List.getElem?_eq_getElem hi)]; exact h⟩
theorem arcs_used {t : Topo} (hv : valid t = true) {g : Nat} (h1 : 1 ≤ g) (h2 : g ≤ 64) : decide ((0 : Int) < ((arcsC t 3 g).1.length : Int)) = usedK t t.ls.length g := by
  have hc : compV t 3 g = true := by rw [compV3 hv]; simp; omega
  have e : (arcsC t 3 g).1.length = 2 * (linksL t 3 g t.ls.length).length := by simp [arcsC, hc, arcsOf_len]
  rw [e, ← used_links, ← ups_any]
  rw [decide_eq_decide]
  unfold linksL
  omega

set_option maxRecDepth 100000 in
set_option maxHeartbeats 4000000 in
theorem ref10_All (t : Topo) (A1 A2 : Option Addr) (c1 c2 : Nat) (w : World) (hT : TAt w A1 A2 t) :
    Calls Tryd.prog 13 #[.agg #[.int .i64 t.n, .slice A1 t.ov.length c1, .slice A2 t.ls.length c2]] w (RetPairs w (if valid t then allL t else [])) := by
  obtain ⟨i0, hi, hz0, hz1, hz2⟩ := info_parts compInfo
  have hX := TBox.start c1 c2 hT
  have HT0 := Lib.hid hT
  have hb0 := below_box w (.cells #[.int .i64 t.n, .slice A1 t.ov.length c1, .slice A2 t.ls.length c2] 25)
  have HT := hT.below hb0
  have HB := hb0
  have b0 := box0 w (.int .i64 t.n) (.slice A1 t.ov.length c1) (.slice A2 t.ls.length c2) 25
  have b1 := box1 w (.int .i64 t.n) (.slice A1 t.ov.length c1) (.slice A2 t.ls.length c2) 25
  have b2 := box2 w (.int .i64 t.n) (.slice A1 t.ov.length c1) (.slice A2 t.ls.length c2) 25
  clear hb0 hT
  cases hv : valid t with
  | false =>
    rw [show (if false = true then allL t else []) = ([] : List (Int × Int)) by simp]
    go_enter Tryd.func13, Tryd.ntmps13
    go_wp2_with (go_at_call 26; refine (ref09_Valid t _ _ _ _ _ HT.ls).mono ?_; rintro e w1 ⟨rfl, hb⟩; replace HT := HT.below hb; replace b0 := cell_up hb b0; replace b1 := cell_up hb b1; replace b2 := cell_up hb b2; replace HB := below_next HB hb; clear hb)
    go_ret
    exact ⟨none, 0, rfl, .inl rfl, HB⟩
  | true =>
    rw [show (if true = true then allL t else []) = allL t by simp]
    have HV := Lib.hid hv
    have hls := valid_ls hv
    have HX := Lib.hid hX
    obtain ⟨hn1, hn2⟩ := valid_n hv
    obtain ⟨nn, hnn⟩ : ∃ nn : Nat, t.n = (nn : Int) := ⟨t.n.toNat, by omega⟩
    have HN := Lib.hid hnn
    have hnn64 : nn ≤ 64 := by omega
    clear hX HT HB hnn hn1 hn2
    go_enter Tryd.func13, Tryd.ntmps13
    go_wp2_with (go_at_call 26; refine (ref09_Valid t _ _ _ _ _ HX.out.ta.ls).mono ?_; rintro e w1 ⟨rfl, hb⟩; replace HX := Lib.hid (HX.out.up hb); clear hb b0 b1 b2)
    clear hv
    go_loopw [3, 4] (fun v i wr => ∃ j : Nat, j ≤ t.ls.length ∧ i = .int .i64 j ∧ Hid (wr.ownsRow (w.heap.size + 1) 31 2 v j (pcells (ncP 1 j))) ∧ Hid (TBox w A1 A2 c1 c2 t wr)) (fun _ i _ => t.ls.length - (intOf i).toNat)
    case atStart => exact ⟨0, Nat.zero_le _, rfl, Lib.hid (World.ownsRow_nil _ _ _ _), HX⟩
    case round =>
      clear HX
      obtain ⟨j, hj, rfl, HO, HX⟩ := hrel
      have b2 := HX.out.b2
      have hsz : w.heap.size + 1 ≤ wr.heap.size := block_lt_of_cell HX.out.b0
      by_cases hlt : j < t.ls.length
      · have hlt' : (j : Int) < (t.ls.length : Int) := by omega
        go_wp2_with (at_builtin; refine wpList_append_own _ rfl _ _ 28 rfl (w.heap.size + 1) 31 i0 (.agg #[.int .i64 0, .int .i64 0]) 2 16 Tryd.underlying28 hi hz0 hz1 hz2 rfl (by decide) _ _ _ rfl (HO.out.alloc _) ⟨_, 0, none⟩ 1 1 [.int .i64 1, .int .i64 j] rfl rfl (cell_two_at _ _ _ _ _ (by simp)) ?_ ?_ ?_ ?_ ?_)
        · intro u hu; simp at hu; rcases hu with rfl | rfl <;> rfl
        · unfold maxLen; omega
        · omega
        · simp; omega
        · intro v' w2 hown' hgrow _
          have HO3 : Hid (w2.ownsRow (w.heap.size + 1) 31 2 v' (j + 1) (pcells (ncP 1 (j + 1)))) := Lib.hid (by rw [ncP, pcells_snoc]; exact hown')
          have HB3 : Hid (Below (w.heap.size + 1) wr w2) := Lib.hid (((Below.refl _ wr).alloc (by omega) _).grown hgrow (by simp; omega) (fun k hk => (HO.out.lt k hk).1))
          clear hown' hgrow HO b2
          go_wp2_with fail
          go_roundw
          case rel => exact ⟨j + 1, by omega, by go_num, HO3, Lib.hid (keep_box HX.out HB3.out HT0.out)⟩
          case measure => simp [intOf]; omega
      · obtain rfl : j = t.ls.length := by omega
        clear hlt hj
        go_wp2_with fail
        have HO2 : Hid (wr.ownsRow (w.heap.size + 1) 31 2 _ (t.ls.length + 0) (pcells (ncP 1 t.ls.length ++ ncP 2 0))) := Lib.hid (by rw [ncP, List.append_nil]; exact HO.out)
        clear b2 HO hsz
        obtain ⟨wo, rfl⟩ : ∃ wo : World, wo = wr := ⟨_, rfl⟩
        go_loopw [3, 5] (fun v i wr => ∃ j : Nat, j ≤ nn ∧ i = .int .i64 j ∧ Hid (wr.ownsRow (w.heap.size + 1) 31 2 v (t.ls.length + j) (pcells (ncP 1 t.ls.length ++ ncP 2 j))) ∧ Hid (TBox w A1 A2 c1 c2 t wr)) (fun _ i _ => nn - (intOf i).toNat)
        case atStart => exact ⟨0, Nat.zero_le _, rfl, HO2, HX⟩
        case round =>
          clear HO2 HX
          obtain ⟨j, hj, rfl, HO, HX⟩ := hrel
          have b0 := HX.out.b0
          have hsz : w.heap.size + 1 ≤ wr.heap.size := block_lt_of_cell HX.out.b0
          by_cases hlt : j < nn
          · have hlt' : (j : Int) < t.n := by rw [HN.out]; omega
            go_wp2_with (at_builtin; refine wpList_append_own _ rfl _ _ 28 rfl (w.heap.size + 1) 31 i0 (.agg #[.int .i64 0, .int .i64 0]) 2 16 Tryd.underlying28 hi hz0 hz1 hz2 rfl (by decide) _ _ _ rfl (HO.out.alloc _) ⟨_, 0, none⟩ 1 1 [.int .i64 2, .int .i64 j] rfl rfl (cell_two_at _ _ _ _ _ (by simp)) ?_ ?_ ?_ ?_ ?_)
            · intro u hu; simp at hu; rcases hu with rfl | rfl <;> rfl
            · unfold maxLen; omega
            · omega
            · simp; omega
            · intro v' w2 hown' hgrow _
              have HO3 : Hid (w2.ownsRow (w.heap.size + 1) 31 2 v' (t.ls.length + (j + 1)) (pcells (ncP 1 t.ls.length ++ ncP 2 (j + 1)))) := Lib.hid (by rw [ncP, ← List.append_assoc, pcells_snoc]; exact hown')
              have HB3 : Hid (Below (w.heap.size + 1) wr w2) := Lib.hid (((Below.refl _ wr).alloc (by omega) _).grown hgrow (by simp; omega) (fun k hk => (HO.out.lt k hk).1))
              clear hown' hgrow HO b0
              go_wp2_with fail
              go_roundw
              case rel => exact ⟨j + 1, by omega, by go_num, HO3, Lib.hid (keep_box HX.out HB3.out HT0.out)⟩
              case measure => simp [intOf]; omega
          · obtain rfl : j = nn := by omega
            have hge : ¬ (j : Int) < t.n := by rw [HN.out]; omega
            clear hlt hj
            go_wp2_with fail
            have HO2 : Hid (wr.ownsRow (w.heap.size + 1) 31 2 _ (t.ls.length + j + (grP t 1).length) (pcells ((ncP 1 t.ls.length ++ ncP 2 j) ++ grP t 1))) := Lib.hid (by rw [show grP t 1 = [] by simp [grP], List.append_nil]; exact HO.out)
            clear HO b0 hsz hge
            obtain ⟨wp, rfl⟩ : ∃ wp : World, wp = wr := ⟨_, rfl⟩
            go_loopw [3, 6] (fun v i wr => ∃ g : Nat, 1 ≤ g ∧ g ≤ 65 ∧ i = .int .i64 g ∧ Hid (wr.ownsRow (w.heap.size + 1) 31 2 v (t.ls.length + j + (grP t g).length) (pcells ((ncP 1 t.ls.length ++ ncP 2 j) ++ grP t g))) ∧ Hid (TBox w A1 A2 c1 c2 t wr)) (fun _ i _ => 65 - (intOf i).toNat)
            case atStart => exact ⟨1, Nat.le_refl _, by omega, rfl, HO2, HX⟩
            case round =>
              clear HO2 HX
              obtain ⟨g, hg1, hg, rfl, HO, HX⟩ := hrel
              by_cases hlt : g ≤ 64
              · have hlt' : (g : Int) ≤ 64 := by omega
                have b0 := HX.out.b0
                have b1 := HX.out.b1
                have b2 := HX.out.b2
                have hz : w.heap.size < wr.heap.size := block_lt_of_cell HX.out.b0
                have hzn : w.heap.size ≠ wr.heap.size := by omega
                have hzm : wr.heap.size ≠ w.heap.size := by omega
                have hgl := grP_len t g
                have hus := arcs_used HV.out hg1 hlt
                obtain ⟨⟨xs, er⟩, hR⟩ : ∃ R, arcsC t 3 g = R := ⟨_, rfl⟩
                rw [hR] at hus
                simp only at hus
                have cA : Hid (∀ w', TAt w' A1 A2 t → Calls Tryd.prog 19 #[.agg #[.int .i64 t.n, .slice A1 t.ov.length c1, .slice A2 t.ls.length c2], .agg #[.int .i64 3, .int .i64 g]] w' (RetIE w' (xs, er))) := Lib.hid fun w' h => by
                  have := ref10_Arcs t A1 A2 c1 c2 3 g w' h (by omega)
                  rwa [hR] at this
                clear hR
                have HQ := Lib.hid (below_box wr (.cells #[.int .i64 3, .int .i64 g] 31))
                have s0 : (wr.alloc (.cells #[.int .i64 3, .int .i64 g] 31)).cell? ⟨wr.heap.size, 0, none⟩ = some (.int .i64 3) := by simp
                have s1 : (wr.alloc (.cells #[.int .i64 3, .int .i64 g] 31)).cell? ⟨wr.heap.size, 1, none⟩ = some (.int .i64 g) := by simp
                cases hu : usedK t t.ls.length g with
                | true =>
                  have HGR : Hid (grP t (g + 1) = grP t g ++ [(3, (g : Int))]) := Lib.hid (by rw [grP, hu]; simp; omega)
                  rw [hu] at hus
                  have hpos : 0 < xs.length := by have := of_decide_eq_true hus; omega
                  clear hus
                  go_wp2_with (go_at_call 19; refine (cA.out _ ?_).mono ?_)
                  · exact HX.out.ta.below HQ.out
                  rintro e w2 ⟨Ax, cx, rfl, _, _, _, hb⟩
                  replace s0 := cell_up hb s0
                  replace s1 := cell_up hb s1
                  replace HX := Lib.hid ((HX.out.up HQ.out).up hb)
                  replace HO := Lib.hid (own_up (own_up HO.out HQ.out) hb)
                  have hsz : w.heap.size + 1 ≤ w2.heap.size := block_lt_of_cell HX.out.b0
                  clear hb HQ b0 b1 b2
                  go_wp2_with (at_builtin; refine wpList_append_own _ rfl _ _ 28 rfl (w.heap.size + 1) 31 i0 (.agg #[.int .i64 0, .int .i64 0]) 2 16 Tryd.underlying28 hi hz0 hz1 hz2 rfl (by decide) _ _ _ rfl (HO.out.alloc _) ⟨_, 0, none⟩ 1 1 [.int .i64 3, .int .i64 g] rfl rfl (cell_two_at _ _ _ _ _ (by simp)) ?_ ?_ ?_ ?_ ?_)
                  · intro u hu'; simp at hu'; rcases hu' with rfl | rfl <;> rfl
                  · unfold maxLen; omega
                  · omega
                  · simp; omega
                  · intro v' w3 hown' hgrow _
                    have HO3 : Hid (w3.ownsRow (w.heap.size + 1) 31 2 v' (t.ls.length + j + (grP t (g + 1)).length) (pcells ((ncP 1 t.ls.length ++ ncP 2 j) ++ grP t (g + 1)))) := Lib.hid (by
                      have e1 : pcells ((ncP 1 t.ls.length ++ ncP 2 j) ++ grP t (g + 1)) = pcells (ncP 1 t.ls.length ++ (ncP 2 j ++ grP t g)) ++ [.int .i64 3, .int .i64 g] := by rw [HGR.out, ← List.append_assoc, pcells_snoc, List.append_assoc]
                      have e2 : t.ls.length + j + (grP t (g + 1)).length = t.ls.length + j + (grP t g).length + 1 := by rw [HGR.out, List.length_append]; rfl
                      rw [e1, e2]; exact hown')
                    have HB3 : Hid (Below (w.heap.size + 1) w2 w3) := Lib.hid (((Below.refl _ w2).alloc (by omega) _).grown hgrow (by simp; omega) (fun k hk => (HO.out.lt k hk).1))
                    clear hown' hgrow HO s0 s1
                    go_wp2_with fail
                    go_roundw
                    case rel => exact ⟨g + 1, by omega, by omega, by go_num, HO3, Lib.hid (keep_box HX.out HB3.out HT0.out)⟩
                    case measure => simp [intOf]; omega
                | false =>
                  have HGR : Hid (grP t (g + 1) = grP t g) := Lib.hid (by rw [grP, hu]; simp)
                  rw [hu] at hus
                  have hpos : ¬ 0 < xs.length := by have := of_decide_eq_false hus; omega
                  clear hus
                  go_wp2_with (go_at_call 19; refine (cA.out _ ?_).mono ?_)
                  · exact HX.out.ta.below HQ.out
                  rintro e w2 ⟨Ax, cx, rfl, _, _, _, hb⟩
                  replace HX := Lib.hid ((HX.out.up HQ.out).up hb)
                  replace HO := Lib.hid (own_up (own_up HO.out HQ.out) hb)
                  clear hb HQ b0 b1 b2 s0 s1
                  go_wp2_with fail
                  go_roundw
                  case rel => exact ⟨g + 1, by omega, by omega, by go_num, by rw [HGR.out]; exact HO, HX⟩
                  case measure => simp [intOf]; omega
              · obtain rfl : g = 65 := by omega
                have hjn : t.n.toNat = j := by rw [HN.out]; simp
                go_wp2_with fail
                go_ret
                exact retPairs_of (by rw [allL, hjn, List.append_assoc]) HO.out HX.out.hb

end Go.Proofs.YtibennndjfhieaaDoor
