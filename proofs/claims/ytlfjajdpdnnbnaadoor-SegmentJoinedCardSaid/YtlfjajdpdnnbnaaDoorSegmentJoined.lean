/-
  SegmentJoined: for every topology, list of segments, node and cut the law returns true. The card SegmentJoinedCardSaid; no condition beyond the given row's.
-/
import Derived.Test.YtlfjajdpdnnbnaaDoorAwake18
import Derived.Test.YtlfjajdpdnnbnaaDoorOpenSeg
import Derived.Test.YtlfjajdpdnnbnaaDoorSegJoin
import Derived.Test.YtlfjajdpdnnbnaaDoorOpen
import Derived.Test.YtlfjajdpdnnbnaaDoorCards
import Derived.Test.YtlfjajdpdnnbnaaDoorTie
import Derived.WalkKit
import Derived.ProofKit
import Derived.OpenShut
import Derived.ChangeOld
import Derived.Deep.DeepHandedRow
import Derived.Lib.LaidTab
import Derived.MakeChecks
import Derived.Lib.LaidU8
import Derived.Deep.RegionHeld3
import Derived.Deep.DrawnRows
namespace Go.Proofs.YtlfjajdpdnnbnaaDoor.segmentJoined
open Go.ChangeShapes Go.WideShapes Go.ChangeAt Go.RowKit Go.Sort
set_option linter.unusedVariables false

theorem keep2 {w wa w' : World} {A1 A2 : Option Addr} {c1 c2 : Nat} {t : Topo} (h : Hid (TBox w A1 A2 c1 c2 t w')) (h2 : Hid (Below wa.heap.size wa w')) :
    w'.cell? ⟨w.heap.size, 0, none⟩ = some (.int .i64 t.n) ∧ w'.cell? ⟨w.heap.size, 1, none⟩ = some (.slice A1 t.ov.length c1) ∧ w'.cell? ⟨w.heap.size, 2, none⟩ = some (.slice A2 t.ls.length c2) ∧ Hid (TBox w A1 A2 c1 c2 t w') ∧ Hid (Below wa.heap.size wa w') :=
  ⟨h.out.b0, h.out.b1, h.out.b2, h, h2⟩
theorem below_drew1 (w : World) : Below w.heap.size w w.drew := ⟨rfl, rfl, rfl, Nat.le_refl _, fun _ _ => rfl⟩

set_option maxHeartbeats 16000000 in
set_option maxRecDepth 100000 in
theorem walk (t : Topo) (A1 A2 : Option Addr) (c1 c2 : Nat) (A3 : Option Addr) (c3 : Nat) (l : List (Int × Int)) (f : Int) (q : Int) (w : World) (hT : TAt w A1 A2 t) (hn : I64 t.n) (ho : t.ov.length ≤ maxLen) (hl : t.ls.length ≤ maxLen) (hb : ∀ l ∈ t.ls, LnkIn l)
    (hlc : l.length ≤ c3) (hcm : c3 ≤ maxLen) (hx : ∀ p ∈ l, PairIn p) (hA : RdP w A3 l) (hf : -9223372036854775808 ≤ f ∧ f ≤ 9223372036854775807) (hq : 0 ≤ q ∧ q ≤ 255) (ht : Tab w.heap.size w) :
    Calls Tryd.prog 5 #[.agg #[.int .i64 t.n, .slice A1 t.ov.length c1, .slice A2 t.ls.length c2], .slice A3 l.length c3, .int .i64 f, .int .u8 q] w fun e w' => e = .returned (.bool true) ∧ Below w.heap.size w w' := by
  clear hn ho hl hb hx hf
  obtain ⟨hq0, hq1⟩ := hq
  have hcm' : c3 ≤ 9223372036854775807 := hcm
  clear hcm
  have hX := TBox.start c1 c2 hT
  have HA := Lib.hid hA; clear hA
  have HT0 := Lib.hid ht; clear ht
  have b0 := hX.b0
  have b1 := hX.b1
  have b2 := hX.b2
  have HX := Lib.hid hX; clear hX
  cases hg : big t with
  | true =>
    go_enter Tryd.func5, Tryd.ntmps5
    go_wp2_with (first | (go_at_call 10; refine (law18_awake _ (tab_up HT0.out HX.out.hb HX.out.hb.size)).mono ?_; rintro e w1 ⟨rfl, hb⟩; replace HX := Lib.hid (HX.out.up hb); replace b0 := cell_up hb b0; replace b1 := cell_up hb b1; replace b2 := cell_up hb b2; clear hb) | (go_at_call 11; refine (law18_large _ _ _ t _ _ _).mono ?_; rintro e w1 ⟨rfl, hb⟩; replace HX := Lib.hid (HX.out.up hb); replace b0 := cell_up hb b0; replace b1 := cell_up hb b1; replace b2 := cell_up hb b2; clear hb))
    go_ret
    exact ⟨rfl, HX.out.hb⟩
  | false =>
    cases hm : decide (100 < (l.length : Int)) with
    | true =>
      go_enter Tryd.func5, Tryd.ntmps5
      go_wp2_with (first | (go_at_call 10; refine (law18_awake _ (tab_up HT0.out HX.out.hb HX.out.hb.size)).mono ?_; rintro e w1 ⟨rfl, hb⟩; replace HX := Lib.hid (HX.out.up hb); replace b0 := cell_up hb b0; replace b1 := cell_up hb b1; replace b2 := cell_up hb b2; clear hb) | (go_at_call 11; refine (law18_large _ _ _ t _ _ _).mono ?_; rintro e w1 ⟨rfl, hb⟩; replace HX := Lib.hid (HX.out.up hb); replace b0 := cell_up hb b0; replace b1 := cell_up hb b1; replace b2 := cell_up hb b2; clear hb))
      go_ret
      exact ⟨rfl, HX.out.hb⟩
    | false =>
      have hn : t.ls.length ≤ 100000 := by have := big_false hg; omega
      have hl : l.length ≤ 100 := by have := of_decide_eq_false hm; omega
      obtain ⟨k, hk⟩ : ∃ k : Nat, q % ((l.length : Int) + 1) = (k : Int) := ⟨(q % ((l.length : Int) + 1)).toNat, by have := Int.emod_nonneg q (show ((l.length : Int) + 1) ≠ 0 by omega); omega⟩
      have hkl : k ≤ l.length := by have := Int.emod_lt_of_pos q (show (0 : Int) < (l.length : Int) + 1 by omega); omega
      obtain ⟨⟨xs, er⟩, hV⟩ : ∃ R, endsV t l f = R := ⟨_, rfl⟩
      obtain ⟨⟨ys, e1⟩, hU⟩ : ∃ R, endsV t (l.take k) f = R := ⟨_, rfl⟩
      have hJ := ends_join hkl hV hU
      have hxs : xs.length ≤ 100000 := by
        have h1 := endsV_len t l f
        rw [hV] at h1
        simp only at h1
        omega
      have hys : ys.length ≤ 100000 := by
        have h1 := endsV_len t (l.take k) f
        rw [hU, List.length_take] at h1
        simp only at h1
        omega
      have hC1 : Hid (∀ w', TAt w' A1 A2 t → RdP w' A3 l → Calls Tryd.prog 14 #[.agg #[.int .i64 t.n, .slice A1 t.ov.length c1, .slice A2 t.ls.length c2], .slice A3 l.length c3, .int .i64 f] w' (RetIE w' (xs, er))) := Lib.hid fun w' h1 h2 => by
        have := segment_Ends t A1 A2 A3 c1 c2 c3 l f w' h1 h2 hn (by omega)
        rwa [hV] at this
      have hC2 : Hid (∀ w', TAt w' A1 A2 t → RdP w' A3 l → Calls Tryd.prog 14 #[.agg #[.int .i64 t.n, .slice A1 t.ov.length c1, .slice A2 t.ls.length c2], .slice A3 k c3, .int .i64 f] w' (RetIE w' (ys, e1))) := Lib.hid fun w' h1 h2 => by
        have := segment_Ends t A1 A2 A3 c1 c2 c3 (l.take k) f w' h1 (h2.take k) hn (by rw [List.length_take]; omega)
        rw [hU, List.length_take, Nat.min_eq_left hkl] at this
        exact this
      have HJ := Lib.hid hJ
      clear hV hU hJ
      have i0 : (0 : Int) ≤ (k : Int) := by omega
      have i1 : (k : Int) ≤ (c3 : Int) := by omega
      have i2 : (k : Int) ≤ (l.length : Int) := by omega
      go_enter Tryd.func5, Tryd.ntmps5
      go_wp2_with (first | (go_at_call 10; refine (law18_awake _ (tab_up HT0.out HX.out.hb HX.out.hb.size)).mono ?_; rintro e w1 ⟨rfl, hb⟩; replace HX := Lib.hid (HX.out.up hb); replace b0 := cell_up hb b0; replace b1 := cell_up hb b1; replace b2 := cell_up hb b2; clear hb) | (go_at_call 11; refine (law18_large _ _ _ t _ _ _).mono ?_; rintro e w1 ⟨rfl, hb⟩; replace HX := Lib.hid (HX.out.up hb); replace b0 := cell_up hb b0; replace b1 := cell_up hb b1; replace b2 := cell_up hb b2; clear hb) | (go_at_call 14; refine (hC1.out _ HX.out.ta (HA.out.below HX.out.hb)).mono ?_; rintro e wA ⟨Aa, ca, rfl, _, _, ra, hb⟩; replace HX := Lib.hid (HX.out.up hb); replace b0 := cell_up hb b0; replace b1 := cell_up hb b1; replace b2 := cell_up hb b2; clear hb; have HRA := Lib.hid ra; clear ra))
      have HBA : Hid (Below wA.heap.size wA wA.drew) := Lib.hid (below_drew1 _)
      replace HX := Lib.hid (HX.out.up (below_drew1 _))
      go_region_held3 (fun w' => w'.cell? ⟨w.heap.size, 0, none⟩ = some (.int .i64 t.n) ∧ w'.cell? ⟨w.heap.size, 1, none⟩ = some (.slice A1 t.ov.length c1) ∧ w'.cell? ⟨w.heap.size, 2, none⟩ = some (.slice A2 t.ls.length c2) ∧ Hid (TBox w A1 A2 c1 c2 t w') ∧ Hid (Below wA.heap.size wA w')) (exact keep2 (by assumption) (by assumption))
        (first | (go_at_call 14; refine (hC2.out _ ?_ ?_).mono ?_; (exact TBox.ta (Hid.out (by assumption))); (exact (HA.out.below (TBox.hb (w := w) (A1 := A1) (A2 := A2) (c1 := c1) (c2 := c2) (t := t) (Hid.out (by assumption)))));rintro e wB ⟨Ab, cb, rfl, _, _, rb, hb⟩; have HX := Lib.hid (TBox.up (w := w) (A1 := A1) (A2 := A2) (c1 := c1) (c2 := c2) (t := t) (Hid.out (by assumption)) hb); have HBA := Lib.hid (below_next (a := wA) (Hid.out (by assumption)) hb); clear hb))
      rename_i HXz
      obtain ⟨b0, b1, b2, HX, HBA⟩ := HXz
      replace HRA := Lib.hid (HRA.out.below HBA.out)
      have HRB := Lib.hid rb
      clear rb HBA hC1 hC2
      cases he1 : (e1 != 0) with
      | true =>
        have hee : (er == e1) = true := by have := HJ.out.1 (by simpa using he1); simp [this]
        go_wp2_with fail
        go_ret
        exact ⟨rfl, HX.out.hb⟩
      | false =>
        obtain rfl : e1 = 0 := by simpa using he1
        obtain ⟨hyk, hJ2⟩ := HJ.out.2 rfl
        have HJ2 := Lib.hid hJ2
        clear hJ2 HJ
        subst hyk
        obtain ⟨j0, hj, hy0, hy1, hy2⟩ := info_parts intInfo
        by_cases hp : 0 < ys.length
        · obtain ⟨bb, oo, x, rfl, hxx, cx⟩ := ints_at HRB.out (k := ys.length - 1) (by omega)
          have hlast : lastE f ys = x := lastE_at hxx
          have hidx : ((ys.length : Int) - 1).toNat = ys.length - 1 := by omega
          have hb1' : (0 : Int) ≤ (ys.length : Int) - 1 := by omega
          have hb2' : (1 : Int) ≤ (ys.length : Int) := by omega
          have hb3' : (ys.length : Int) - 1 < (ys.length : Int) := by omega
          have hp' : (0 : Int) < (ys.length : Int) := by omega
          clear hxx
          obtain ⟨⟨zs, e2⟩, hZ⟩ : ∃ R, endsV t (l.drop ys.length) x = R := ⟨_, rfl⟩
          have hzs : zs.length ≤ 100000 := by
            have h1 := endsV_len t (l.drop ys.length) x
            rw [hZ, List.length_drop] at h1
            simp only at h1
            omega
          have hee := HJ2.out zs e2 (by rw [hlast]; exact hZ)
          have hC3 : Hid (∀ (A' : Option Addr) (c' m : Nat) (w' : World), m = l.length - ys.length → TAt w' A1 A2 t → RdP w' A' (l.drop ys.length) → Calls Tryd.prog 14 #[.agg #[.int .i64 t.n, .slice A1 t.ov.length c1, .slice A2 t.ls.length c2], .slice A' m c', .int .i64 x] w' (RetIE w' (zs, e2))) := Lib.hid fun A' c' m w' hm h1 h2 => by
            have := segment_Ends t A1 A2 A' c1 c2 c' (l.drop ys.length) x w' h1 h2 hn (by rw [List.length_drop]; omega)
            rw [hZ, List.length_drop] at this
            rw [hm]
            exact this
          obtain ⟨rfl, hxz⟩ := hee
          have HXZ := Lib.hid hxz
          clear hZ hxz HJ2 hlast
          by_cases hck : c3 = ys.length
          · have hde : l.drop ys.length = [] := List.drop_of_length_le (by omega)
            have HDE := Lib.hid hde
            clear hde
            subst hck
            go_wp2_with fail
            have HBA : Hid (Below wB.heap.size wB wB.drew) := Lib.hid (below_drew1 _)
            replace HX := Lib.hid (HX.out.up (below_drew1 _))
            go_region_held3 (fun w' => w'.cell? ⟨w.heap.size, 0, none⟩ = some (.int .i64 t.n) ∧ w'.cell? ⟨w.heap.size, 1, none⟩ = some (.slice A1 t.ov.length c1) ∧ w'.cell? ⟨w.heap.size, 2, none⟩ = some (.slice A2 t.ls.length c2) ∧ Hid (TBox w A1 A2 c1 c2 t w') ∧ Hid (Below wB.heap.size wB w')) (exact keep2 (by assumption) (by assumption))
              (first | (go_at_call 14; refine (hC3.out _ _ _ _ (by omega) ?_ ?_).mono ?_; (exact TBox.ta (Hid.out (by assumption))); (exact (.inl HDE.out : RdP _ _ (l.drop ys.length)));rintro e wC ⟨Ac, cc, rfl, _, _, rc, hb⟩; have HX := Lib.hid (TBox.up (w := w) (A1 := A1) (A2 := A2) (c1 := c1) (c2 := c2) (t := t) (Hid.out (by assumption)) hb); have HBA := Lib.hid (below_next (a := wB) (Hid.out (by assumption)) hb); clear hb))
            rename_i HXz
            obtain ⟨b0, b1, b2, HX, HBA⟩ := HXz
            replace HRA := Lib.hid (HRA.out.below HBA.out)
            replace HRB := Lib.hid (HRB.out.below HBA.out)
            have HRC := Lib.hid rc
            clear rc HBA hC3 b0 b1 b2
            cases he : (er != 0) with
            | true =>
              go_wp2_with fail
              go_ret
              exact ⟨rfl, HX.out.hb⟩
            | false =>
              have HXE := Lib.hid (HXZ.out (by simpa using he))
              have HWX := Lib.hid HX.out.hb
              have hE0 := own_empty wC (Nat.le_refl _) 3
              have HE0 := Lib.hid hE0
              clear hE0 HX HXZ
              go_wp2_with (first | (at_builtin; refine wpList_app_list _ (by rfl) (.tmp 80) (.tmp 81) 32 rfl wC.heap.size 3 j0 (.int .i64 0) 8 Tryd.underlying32 hj hy0 hy1 hy2 rfl _ _ _ rfl HE0.out (some ⟨bb, oo, none⟩) ys.length cb (ys.map (Value.int .i64)) rfl (List.length_map ..) ?_ ?_ ?_ ?_ ?_ ?_))
              · exact HRB.out.below (below_box wC _)
              · intro u hu; simp only [List.mem_map] at hu; obtain ⟨x', _, rfl⟩ := hu; rfl
              · unfold maxLen; omega
              · omega
              · simp
              · intro v1 w4 own1 grow1
                have hb4 : Below wC.heap.size wC w4 := ((Below.refl _ wC).alloc (Nat.le_refl _) _).grown grow1 (by simp) (fun k hk => by simp [Value.ownBlock] at hk; omega)
                have HO1 : Hid (w4.ownsRow wC.heap.size 3 1 v1 ys.length (ys.map (Value.int .i64))) := Lib.hid (by simpa using own1)
                have HB4 := Lib.hid hb4
                clear own1 grow1 hb4 HE0
                go_wp2_with (at_builtin; refine wpList_app_list _ (by rfl) (.tmp 82) (.tmp 83) 32 rfl wC.heap.size 3 j0 (.int .i64 0) 8 Tryd.underlying32 hj hy0 hy1 hy2 rfl v1 _ _ rfl HO1.out Ac zs.length cc (zs.map (Value.int .i64)) rfl (List.length_map ..) ?_ ?_ ?_ ?_ ?_ ?_)
                · exact HRC.out.below HB4.out
                · intro u hu; simp only [List.mem_map] at hu; obtain ⟨x', _, rfl⟩ := hu; rfl
                · unfold maxLen; omega
                · omega
                · exact HB4.out.size
                · intro v2 w5 own2 grow2
                  have hb5 : Below wC.heap.size wC w5 := HB4.out.grown grow2 HB4.out.size (fun k hk => (HO1.out.lt k hk).1)
                  have own2' : w5.ownsRow wC.heap.size 3 1 v2 xs.length (xs.map (Value.int .i64)) := by rw [HXE.out]; simpa using own2
                  obtain ⟨A5, c5, rfl, _, _, r5⟩ := rd_of_own own2'
                  have HR5 := Lib.hid r5
                  have HB5 := Lib.hid hb5
                  clear own2 own2' grow2 r5 hb5 HO1 HB4
                  go_wp2_with (go_at_call 16; refine (sameInts_refl _ _ _ _ _ _ (HRA.out.below HB5.out) HR5.out (by omega)).mono ?_; rintro e w6 ⟨rfl, hb6⟩)
                  go_ret
                  exact ⟨rfl, below_next (below_next HWX.out HB5.out) hb6⟩
          · have hck' : (c3 == ys.length) = false := by rw [beq_eq_false_iff_ne]; exact hck
            go_wp2_with fail
            have HBA : Hid (Below wB.heap.size wB wB.drew) := Lib.hid (below_drew1 _)
            replace HX := Lib.hid (HX.out.up (below_drew1 _))
            go_region_held3 (fun w' => w'.cell? ⟨w.heap.size, 0, none⟩ = some (.int .i64 t.n) ∧ w'.cell? ⟨w.heap.size, 1, none⟩ = some (.slice A1 t.ov.length c1) ∧ w'.cell? ⟨w.heap.size, 2, none⟩ = some (.slice A2 t.ls.length c2) ∧ Hid (TBox w A1 A2 c1 c2 t w') ∧ Hid (Below wB.heap.size wB w')) (exact keep2 (by assumption) (by assumption))
              (first | (go_at_call 14; refine (hC3.out _ _ _ _ rfl ?_ ?_).mono ?_; (exact TBox.ta (Hid.out (by assumption))); (exact ((HA.out.below (TBox.hb (w := w) (A1 := A1) (A2 := A2) (c1 := c1) (c2 := c2) (t := t) (Hid.out (by assumption)))).drop ys.length));rintro e wC ⟨Ac, cc, rfl, _, _, rc, hb⟩; have HX := Lib.hid (TBox.up (w := w) (A1 := A1) (A2 := A2) (c1 := c1) (c2 := c2) (t := t) (Hid.out (by assumption)) hb); have HBA := Lib.hid (below_next (a := wB) (Hid.out (by assumption)) hb); clear hb))
            rename_i HXz
            obtain ⟨b0, b1, b2, HX, HBA⟩ := HXz
            replace HRA := Lib.hid (HRA.out.below HBA.out)
            replace HRB := Lib.hid (HRB.out.below HBA.out)
            have HRC := Lib.hid rc
            clear rc HBA hC3 b0 b1 b2
            cases he : (er != 0) with
            | true =>
              go_wp2_with fail
              go_ret
              exact ⟨rfl, HX.out.hb⟩
            | false =>
              have HXE := Lib.hid (HXZ.out (by simpa using he))
              have HWX := Lib.hid HX.out.hb
              have hE0 := own_empty wC (Nat.le_refl _) 3
              have HE0 := Lib.hid hE0
              clear hE0 HX HXZ
              go_wp2_with (first | (at_builtin; refine wpList_app_list _ (by rfl) (.tmp 80) (.tmp 81) 32 rfl wC.heap.size 3 j0 (.int .i64 0) 8 Tryd.underlying32 hj hy0 hy1 hy2 rfl _ _ _ rfl HE0.out (some ⟨bb, oo, none⟩) ys.length cb (ys.map (Value.int .i64)) rfl (List.length_map ..) ?_ ?_ ?_ ?_ ?_ ?_))
              · exact HRB.out.below (below_box wC _)
              · intro u hu; simp only [List.mem_map] at hu; obtain ⟨x', _, rfl⟩ := hu; rfl
              · unfold maxLen; omega
              · omega
              · simp
              · intro v1 w4 own1 grow1
                have hb4 : Below wC.heap.size wC w4 := ((Below.refl _ wC).alloc (Nat.le_refl _) _).grown grow1 (by simp) (fun k hk => by simp [Value.ownBlock] at hk; omega)
                have HO1 : Hid (w4.ownsRow wC.heap.size 3 1 v1 ys.length (ys.map (Value.int .i64))) := Lib.hid (by simpa using own1)
                have HB4 := Lib.hid hb4
                clear own1 grow1 hb4 HE0
                go_wp2_with (at_builtin; refine wpList_app_list _ (by rfl) (.tmp 82) (.tmp 83) 32 rfl wC.heap.size 3 j0 (.int .i64 0) 8 Tryd.underlying32 hj hy0 hy1 hy2 rfl v1 _ _ rfl HO1.out Ac zs.length cc (zs.map (Value.int .i64)) rfl (List.length_map ..) ?_ ?_ ?_ ?_ ?_ ?_)
                · exact HRC.out.below HB4.out
                · intro u hu; simp only [List.mem_map] at hu; obtain ⟨x', _, rfl⟩ := hu; rfl
                · unfold maxLen; omega
                · omega
                · exact HB4.out.size
                · intro v2 w5 own2 grow2
                  have hb5 : Below wC.heap.size wC w5 := HB4.out.grown grow2 HB4.out.size (fun k hk => (HO1.out.lt k hk).1)
                  have own2' : w5.ownsRow wC.heap.size 3 1 v2 xs.length (xs.map (Value.int .i64)) := by rw [HXE.out]; simpa using own2
                  obtain ⟨A5, c5, rfl, _, _, r5⟩ := rd_of_own own2'
                  have HR5 := Lib.hid r5
                  have HB5 := Lib.hid hb5
                  clear own2 own2' grow2 r5 hb5 HO1 HB4
                  go_wp2_with (go_at_call 16; refine (sameInts_refl _ _ _ _ _ _ (HRA.out.below HB5.out) HR5.out (by omega)).mono ?_; rintro e w6 ⟨rfl, hb6⟩)
                  go_ret
                  exact ⟨rfl, below_next (below_next HWX.out HB5.out) hb6⟩
        · have hy0' : ys = [] := List.eq_nil_of_length_eq_zero (by omega)
          have hlast : lastE f ys = f := by rw [hy0']; rfl
          have hp' : ¬ (0 : Int) < (ys.length : Int) := by omega
          clear hy0'
          obtain ⟨⟨zs, e2⟩, hZ⟩ : ∃ R, endsV t (l.drop ys.length) f = R := ⟨_, rfl⟩
          have hzs : zs.length ≤ 100000 := by
            have h1 := endsV_len t (l.drop ys.length) f
            rw [hZ, List.length_drop] at h1
            simp only at h1
            omega
          have hee := HJ2.out zs e2 (by rw [hlast]; exact hZ)
          have hC3 : Hid (∀ (A' : Option Addr) (c' m : Nat) (w' : World), m = l.length - ys.length → TAt w' A1 A2 t → RdP w' A' (l.drop ys.length) → Calls Tryd.prog 14 #[.agg #[.int .i64 t.n, .slice A1 t.ov.length c1, .slice A2 t.ls.length c2], .slice A' m c', .int .i64 f] w' (RetIE w' (zs, e2))) := Lib.hid fun A' c' m w' hm h1 h2 => by
            have := segment_Ends t A1 A2 A' c1 c2 c' (l.drop ys.length) f w' h1 h2 hn (by rw [List.length_drop]; omega)
            rw [hZ, List.length_drop] at this
            rw [hm]
            exact this
          obtain ⟨rfl, hxz⟩ := hee
          have HXZ := Lib.hid hxz
          clear hZ hxz HJ2 hlast
          by_cases hck : c3 = ys.length
          · have hde : l.drop ys.length = [] := List.drop_of_length_le (by omega)
            have HDE := Lib.hid hde
            clear hde
            subst hck
            go_wp2_with fail
            have HBA : Hid (Below wB.heap.size wB wB.drew) := Lib.hid (below_drew1 _)
            replace HX := Lib.hid (HX.out.up (below_drew1 _))
            go_region_held3 (fun w' => w'.cell? ⟨w.heap.size, 0, none⟩ = some (.int .i64 t.n) ∧ w'.cell? ⟨w.heap.size, 1, none⟩ = some (.slice A1 t.ov.length c1) ∧ w'.cell? ⟨w.heap.size, 2, none⟩ = some (.slice A2 t.ls.length c2) ∧ Hid (TBox w A1 A2 c1 c2 t w') ∧ Hid (Below wB.heap.size wB w')) (exact keep2 (by assumption) (by assumption))
              (first | (go_at_call 14; refine (hC3.out _ _ _ _ (by omega) ?_ ?_).mono ?_; (exact TBox.ta (Hid.out (by assumption))); (exact (.inl HDE.out : RdP _ _ (l.drop ys.length)));rintro e wC ⟨Ac, cc, rfl, _, _, rc, hb⟩; have HX := Lib.hid (TBox.up (w := w) (A1 := A1) (A2 := A2) (c1 := c1) (c2 := c2) (t := t) (Hid.out (by assumption)) hb); have HBA := Lib.hid (below_next (a := wB) (Hid.out (by assumption)) hb); clear hb))
            rename_i HXz
            obtain ⟨b0, b1, b2, HX, HBA⟩ := HXz
            replace HRA := Lib.hid (HRA.out.below HBA.out)
            replace HRB := Lib.hid (HRB.out.below HBA.out)
            have HRC := Lib.hid rc
            clear rc HBA hC3 b0 b1 b2
            cases he : (er != 0) with
            | true =>
              go_wp2_with fail
              go_ret
              exact ⟨rfl, HX.out.hb⟩
            | false =>
              have HXE := Lib.hid (HXZ.out (by simpa using he))
              have HWX := Lib.hid HX.out.hb
              have hE0 := own_empty wC (Nat.le_refl _) 3
              have HE0 := Lib.hid hE0
              clear hE0 HX HXZ
              go_wp2_with (first | (at_builtin; refine wpList_app_list _ (by rfl) (.tmp 80) (.tmp 81) 32 rfl wC.heap.size 3 j0 (.int .i64 0) 8 Tryd.underlying32 hj hy0 hy1 hy2 rfl _ _ _ rfl HE0.out Ab ys.length cb (ys.map (Value.int .i64)) rfl (List.length_map ..) ?_ ?_ ?_ ?_ ?_ ?_))
              · exact HRB.out.below (below_box wC _)
              · intro u hu; simp only [List.mem_map] at hu; obtain ⟨x', _, rfl⟩ := hu; rfl
              · unfold maxLen; omega
              · omega
              · simp
              · intro v1 w4 own1 grow1
                have hb4 : Below wC.heap.size wC w4 := ((Below.refl _ wC).alloc (Nat.le_refl _) _).grown grow1 (by simp) (fun k hk => by simp [Value.ownBlock] at hk; omega)
                have HO1 : Hid (w4.ownsRow wC.heap.size 3 1 v1 ys.length (ys.map (Value.int .i64))) := Lib.hid (by simpa using own1)
                have HB4 := Lib.hid hb4
                clear own1 grow1 hb4 HE0
                go_wp2_with (at_builtin; refine wpList_app_list _ (by rfl) (.tmp 82) (.tmp 83) 32 rfl wC.heap.size 3 j0 (.int .i64 0) 8 Tryd.underlying32 hj hy0 hy1 hy2 rfl v1 _ _ rfl HO1.out Ac zs.length cc (zs.map (Value.int .i64)) rfl (List.length_map ..) ?_ ?_ ?_ ?_ ?_ ?_)
                · exact HRC.out.below HB4.out
                · intro u hu; simp only [List.mem_map] at hu; obtain ⟨x', _, rfl⟩ := hu; rfl
                · unfold maxLen; omega
                · omega
                · exact HB4.out.size
                · intro v2 w5 own2 grow2
                  have hb5 : Below wC.heap.size wC w5 := HB4.out.grown grow2 HB4.out.size (fun k hk => (HO1.out.lt k hk).1)
                  have own2' : w5.ownsRow wC.heap.size 3 1 v2 xs.length (xs.map (Value.int .i64)) := by rw [HXE.out]; simpa using own2
                  obtain ⟨A5, c5, rfl, _, _, r5⟩ := rd_of_own own2'
                  have HR5 := Lib.hid r5
                  have HB5 := Lib.hid hb5
                  clear own2 own2' grow2 r5 hb5 HO1 HB4
                  go_wp2_with (go_at_call 16; refine (sameInts_refl _ _ _ _ _ _ (HRA.out.below HB5.out) HR5.out (by omega)).mono ?_; rintro e w6 ⟨rfl, hb6⟩)
                  go_ret
                  exact ⟨rfl, below_next (below_next HWX.out HB5.out) hb6⟩
          · have hck' : (c3 == ys.length) = false := by rw [beq_eq_false_iff_ne]; exact hck
            go_wp2_with fail
            have HBA : Hid (Below wB.heap.size wB wB.drew) := Lib.hid (below_drew1 _)
            replace HX := Lib.hid (HX.out.up (below_drew1 _))
            go_region_held3 (fun w' => w'.cell? ⟨w.heap.size, 0, none⟩ = some (.int .i64 t.n) ∧ w'.cell? ⟨w.heap.size, 1, none⟩ = some (.slice A1 t.ov.length c1) ∧ w'.cell? ⟨w.heap.size, 2, none⟩ = some (.slice A2 t.ls.length c2) ∧ Hid (TBox w A1 A2 c1 c2 t w') ∧ Hid (Below wB.heap.size wB w')) (exact keep2 (by assumption) (by assumption))
              (first | (go_at_call 14; refine (hC3.out _ _ _ _ rfl ?_ ?_).mono ?_; (exact TBox.ta (Hid.out (by assumption))); (exact ((HA.out.below (TBox.hb (w := w) (A1 := A1) (A2 := A2) (c1 := c1) (c2 := c2) (t := t) (Hid.out (by assumption)))).drop ys.length));rintro e wC ⟨Ac, cc, rfl, _, _, rc, hb⟩; have HX := Lib.hid (TBox.up (w := w) (A1 := A1) (A2 := A2) (c1 := c1) (c2 := c2) (t := t) (Hid.out (by assumption)) hb); have HBA := Lib.hid (below_next (a := wB) (Hid.out (by assumption)) hb); clear hb))
            rename_i HXz
            obtain ⟨b0, b1, b2, HX, HBA⟩ := HXz
            replace HRA := Lib.hid (HRA.out.below HBA.out)
            replace HRB := Lib.hid (HRB.out.below HBA.out)
            have HRC := Lib.hid rc
            clear rc HBA hC3 b0 b1 b2
            cases he : (er != 0) with
            | true =>
              go_wp2_with fail
              go_ret
              exact ⟨rfl, HX.out.hb⟩
            | false =>
              have HXE := Lib.hid (HXZ.out (by simpa using he))
              have HWX := Lib.hid HX.out.hb
              have hE0 := own_empty wC (Nat.le_refl _) 3
              have HE0 := Lib.hid hE0
              clear hE0 HX HXZ
              go_wp2_with (first | (at_builtin; refine wpList_app_list _ (by rfl) (.tmp 80) (.tmp 81) 32 rfl wC.heap.size 3 j0 (.int .i64 0) 8 Tryd.underlying32 hj hy0 hy1 hy2 rfl _ _ _ rfl HE0.out Ab ys.length cb (ys.map (Value.int .i64)) rfl (List.length_map ..) ?_ ?_ ?_ ?_ ?_ ?_))
              · exact HRB.out.below (below_box wC _)
              · intro u hu; simp only [List.mem_map] at hu; obtain ⟨x', _, rfl⟩ := hu; rfl
              · unfold maxLen; omega
              · omega
              · simp
              · intro v1 w4 own1 grow1
                have hb4 : Below wC.heap.size wC w4 := ((Below.refl _ wC).alloc (Nat.le_refl _) _).grown grow1 (by simp) (fun k hk => by simp [Value.ownBlock] at hk; omega)
                have HO1 : Hid (w4.ownsRow wC.heap.size 3 1 v1 ys.length (ys.map (Value.int .i64))) := Lib.hid (by simpa using own1)
                have HB4 := Lib.hid hb4
                clear own1 grow1 hb4 HE0
                go_wp2_with (at_builtin; refine wpList_app_list _ (by rfl) (.tmp 82) (.tmp 83) 32 rfl wC.heap.size 3 j0 (.int .i64 0) 8 Tryd.underlying32 hj hy0 hy1 hy2 rfl v1 _ _ rfl HO1.out Ac zs.length cc (zs.map (Value.int .i64)) rfl (List.length_map ..) ?_ ?_ ?_ ?_ ?_ ?_)
                · exact HRC.out.below HB4.out
                · intro u hu; simp only [List.mem_map] at hu; obtain ⟨x', _, rfl⟩ := hu; rfl
                · unfold maxLen; omega
                · omega
                · exact HB4.out.size
                · intro v2 w5 own2 grow2
                  have hb5 : Below wC.heap.size wC w5 := HB4.out.grown grow2 HB4.out.size (fun k hk => (HO1.out.lt k hk).1)
                  have own2' : w5.ownsRow wC.heap.size 3 1 v2 xs.length (xs.map (Value.int .i64)) := by rw [HXE.out]; simpa using own2
                  obtain ⟨A5, c5, rfl, _, _, r5⟩ := rd_of_own own2'
                  have HR5 := Lib.hid r5
                  have HB5 := Lib.hid hb5
                  clear own2 own2' grow2 r5 hb5 HO1 HB4
                  go_wp2_with (go_at_call 16; refine (sameInts_refl _ _ _ _ _ _ (HRA.out.below HB5.out) HR5.out (by omega)).mono ?_; rintro e w6 ⟨rfl, hb6⟩)
                  go_ret
                  exact ⟨rfl, below_next (below_next HWX.out HB5.out) hb6⟩

theorem own : ownKnob Tryd.prog.godebug = none := by kernel_rfl
theorem laidOut : laidOutB Tryd.prog = true := by kernel_rfl
theorem gTab : Tryd.prog.globalNamed "internal/strconv.uint64pow10" = some 2 := by kernel_rfl
theorem gTabType : (Tryd.prog.globals[(2 : Nat)]?).map (·.type) = some 112 := by kernel_rfl
set_option maxRecDepth 100000 in
theorem table {W : World} (h : laidMetH Tryd.prog Rows.segmentJoinedRow.laid W) : Lib.TabIs Tryd.prog W "internal/strconv.uint64pow10" .u64 Lib.pow10Tab :=
  by
  rw [Go.MakeChecks.laidMetH_plain _ _ _ (by kernel_rfl)] at h
  have hm : ("internal/strconv.uint64pow10", Rows.laid_internal_strconv_uint64pow10) ∈ Rows.segmentJoinedRow.laid := by simp [Rows.segmentJoinedRow]
  rw [show (Rows.laid_internal_strconv_uint64pow10 : DataW Unit) = Lib.tabData .u64 Lib.pow10Tab by kernel_rfl] at hm
  obtain ⟨g', t', cs, fuel, p, hg', ht', hvar, hd⟩ := Lib.laidMet.reads h hm
  obtain rfl := Option.some.inj (gTab.symm.trans hg')
  obtain rfl := Option.some.inj (gTabType.symm.trans ht')
  unfold Lib.TabIs
  rw [hvar, ← Lib.cells_of_tab Tryd.underlying112 Tryd.underlying76 (by kernel_rfl) (by kernel_rfl) hd]

set_option maxHeartbeats 1000000 in
set_option maxRecDepth 100000 in
/-- For every argument and every world that holds the tables. -/
theorem contract (H : Type) (enc : TypeId × Value → H) (W : World) (base : Nat) (args : Array Value) (ds gs : List (DataW H)) (before : List MemPlace)
    (hval : ∀ (j : Nat) t v, Tryd.f5.params[j]? = some t → args[j]? = some v → Value.okWide Tryd.prog W .any base t v)
    (hW : DataW.Whole enc Tryd.prog Tryd.f5.params.toList Rows.segmentJoinedSpec.vars false W args.toList ds gs before) (hL : laidMetH Tryd.prog Rows.segmentJoinedRow.laid W) :
    Calls Tryd.prog 5 args W fun e W' => ∃ v, e = .returned v ∧ Rows.segmentJoinedSpec.post enc Tryd.prog Tryd.f5 false true false false W args v W' := by
  have hW' := hW
  obtain ⟨p, q, hA0, hV, rfl, hfz, hnd⟩ := hW
  have hA : DataW.TrodAll enc Tryd.prog W 0 (fun _ => true) true Tryd.f5.params.toList args.toList ds p := hA0
  rw [Tryd.params5] at hA hval
  obtain ⟨v0, vs0, d0, ds0, p0, q0, hargs, rfl, rfl, h0, r0⟩ := trodAll_cons hA
  obtain ⟨v1, vs1, d1, ds1, p1, q1, rfl, rfl, rfl, h1, r1⟩ := trodAll_cons r0
  obtain ⟨v2, vs2, d2, ds2, p2, q2, rfl, rfl, rfl, h2, r2⟩ := trodAll_cons r1
  obtain ⟨v3, vs3, d3, ds3, p3, q3, rfl, rfl, rfl, h3, r3⟩ := trodAll_cons r2
  obtain ⟨rfl, rfl, rfl⟩ := trodAll_nil r3
  obtain rfl : args = #[v0, v1, v2, v3] := by cases args; simp_all
  obtain ⟨rfl, rfl⟩ := trodVars_none hV
  have k0 := h0
  have lt0 : ∀ x ∈ p0, x.block < W.heap.size := by obtain ⟨m, hm⟩ := k0; exact DataW.trod_lt m _ _ _ hm
  obtain ⟨t0, A0a, A0b, c0a, c0b, rfl, hT0, hn0, ho0, hl0, hb0⟩ := open_topo (hval 0 25 v0 rfl rfl) h0
  have k1 := h1
  have lt1 : ∀ x ∈ p1, x.block < W.heap.size := by obtain ⟨m, hm⟩ := k1; exact DataW.trod_lt m _ _ _ hm
  obtain ⟨A1, c1, l1, rfl, hlc1, hcm1, hx1, hA1⟩ := open_segs (hval 1 31 v1 rfl rfl) h1
  have k2 := h2
  have lt2 : ∀ x ∈ p2, x.block < W.heap.size := by obtain ⟨m, hm⟩ := k2; exact DataW.trod_lt m _ _ _ hm
  obtain ⟨x2, rfl, hx2⟩ := open_i64 Tryd.underlying3 (hval 2 3 v2 rfl rfl) h2
  have k3 := h3
  have lt3 : ∀ x ∈ p3, x.block < W.heap.size := by obtain ⟨m, hm⟩ := k3; exact DataW.trod_lt m _ _ _ hm
  obtain ⟨x3, rfl, hx3⟩ := open_u8 Tryd.underlying5 (hval 3 5 v3 rfl rfl) h3
  clear hA0
  refine (walk t0 A0a A0b c0a c0b A1 c1 l1 x2 x3 W hT0 hn0 ho0 hl0 hb0 hlc1 hcm1 hx1 hA1 hx2 hx3 (Lib.tabBelow_of_tabIs (table hL))).mono fun e W' ⟨he, bel⟩ => ?_
  subst he
  exact ⟨_, rfl, _, _, _, [], _, [], hW', trodAll_mk1 (shut_bool Tryd.underlying4 _), (trodAll_cons_mk (Below.trod laidOut (by kernel_rfl) (of_decide_eq_true (by kernel_rfl)) k0 bel lt0) (trodAll_cons_mk (Below.trod laidOut (by kernel_rfl) (of_decide_eq_true (by kernel_rfl)) k1 bel lt1) (trodAll_cons_mk (Below.trod laidOut (by kernel_rfl) (of_decide_eq_true (by kernel_rfl)) k2 bel lt2) (trodAll_cons_mk (Below.trod laidOut (by kernel_rfl) (of_decide_eq_true (by kernel_rfl)) k3 bel lt3) trodAll_mk0)))), rfl, bel.frame _, fun h => by cases h⟩

/-- The cells of a laid table. -/
def tabCells : DataW Unit → Array Value
  | .agg ds => (ds.map fun | .lit (.int k n) => Value.int k n | _ => undef).toArray
  | _ => #[]
def layTab (c : Array Value) : Obj → Obj
  | .cells _ t frozen => .cells c t frozen
  | o => o
/-- A world for the witness: the settled one, the tables holding what their initialisers lay. -/
noncomputable def laidWorld (os : Os) : World :=
  { World.holding Tryd.prog os ⟨#[], #[], []⟩ with heap := (((World.holding Tryd.prog os ⟨#[], #[], []⟩).heap.modify 2 (layTab (tabCells Rows.laid_internal_strconv_uint64pow10))).modify 6 (layTab (tabCells Rows.laid_math_bits_deBruijn32tab))).modify 7 (layTab (tabCells Rows.laid_math_bits_deBruijn64tab)) }
set_option maxRecDepth 100000 in
theorem laid_met (os : Os) : laidMet Tryd.prog Rows.segmentJoinedRow.laid ((laidWorld os).forCall (fun _ _ => 0) ⟨#[], #[.agg #[.int .i64 0, .slice none 0 0, .slice none 0 0], .slice none 0 0, .int .i64 0, .int .u8 0], []⟩).memory :=
  laidMet_of_run' 8 (by kernel_rfl) (by kernel_rfl)
set_option maxRecDepth 100000 in
theorem reads (os : Os) {H : Type} (enc : TypeId × Value → H) : ∃ places, DataW.whole enc Tryd.prog ((laidWorld os).forCall (fun _ _ => 0) ⟨#[], #[.agg #[.int .i64 0, .slice none 0 0, .slice none 0 0], .slice none 0 0, .int .i64 0, .int .u8 0], []⟩).memory Tryd.f5.params.toList Rows.segmentJoinedSpec.vars false (#[.agg #[.int .i64 0, .slice none 0 0, .slice none 0 0], .slice none 0 0, .int .i64 0, .int .u8 0] : Array Value).toList 8 = some ([.agg [.lit (.int .i64 0), .nil, .nil], .nil, .lit (.int .i64 0), .lit (.int .u8 0)], [], places) :=
  ⟨[], by kernel_rfl⟩

set_option maxRecDepth 100000 in
theorem lifted (os : Os) (started : os.Started) (H : Type) (enc : TypeId × Value → H) (F : Stop.Interp) :
    ReturnsInHanded {} Tryd.checked os 5 .any ((OpenSpec.ofChange Rows.segmentJoinedSpec).preRow enc Tryd.prog Tryd.f5 Rows.segmentJoinedRow.domain false Rows.segmentJoinedRow.laid) (((OpenSpec.ofChange Rows.segmentJoinedSpec).at F).post enc Tryd.prog Tryd.f5 false true false false) := by
  obtain ⟨places, hx⟩ := reads os enc
  refine returnsInHanded_of_row (C := Tryd.checked) (s := OpenSpec.ofChange Rows.segmentJoinedSpec) own started (by kernel_rfl) Tryd.func5
    (witness_row_at (enc := enc) (C := Tryd.checked) false (laidWorld os) #[.agg #[.int .i64 0, .slice none 0 0, .slice none 0 0], .slice none 0 0, .int .i64 0, .int .u8 0] rfl (by kernel_rfl) (by kernel_rfl) (by kernel_rfl)
      (OpenSpec.preRow_of_cond 8 hx (by kernel_rfl) (fun k hk => by cases hk) (by kernel_rfl) (laid_met os))) ?_
  intro W base args ds gs before hval hW _ _ _ hL _ _
  exact contract H enc W base args ds gs before hval hW hL

set_option maxRecDepth 100000 in
theorem said : Rows.SegmentJoinedSaid :=
  OpenClaim.holds_of_cond 5 Tryd.f5 rfl rfl rfl rfl rfl rfl rfl ⟨rfl, rfl, rfl, rfl, rfl⟩ rfl rfl rfl rfl rfl (by kernel_rfl) Tryd.func5 (by kernel_rfl)
    (of_decide_eq_true (by kernel_rfl)) (by unfold Func.isWrapper; first | (rw [if_pos (by decide +kernel)]; kernel_rfl) | (rw [if_neg (by decide +kernel)]; exact ⟨rfl, rfl⟩))
    (fun os started H enc _ F => by rw [OpenClaim.pre_eq_preRow]; exact lifted os started H enc F)

set_option maxRecDepth 100000 in
theorem plain (f : FuncId) (fn : Func) (hf : Tryd.pinned.checked.prog.funcNamed "waypoint/waypointlaw18.SegmentJoined" = some f) (hfn : Tryd.pinned.checked.prog.funcs[f]? = some fn) :
    true = Tryd.pinned.checked.prog.looks [] ∧ ∀ (j : Nat) t, fn.params[j]? = some t → Tryd.pinned.checked.prog.wantsStandIn t = false := by
  obtain rfl : f = 5 := Option.some.inj ((show Tryd.prog.funcNamed "waypoint/waypointlaw18.SegmentJoined" = some 5 by kernel_rfl).symm.trans hf) |>.symm
  obtain rfl : fn = Tryd.f5 := (Option.some.inj (Tryd.func5.symm.trans hfn)).symm
  refine ⟨by kernel_rfl, fun j t ht => ?_⟩
  rw [Tryd.params5] at ht
  have hm : t ∈ [25, 31, 3, 5] := by simpa using Array.mem_of_getElem? ht
  have hall : ([25, 31, 3, 5].all fun u => !Tryd.prog.wantsStandIn u) = true := by kernel_rfl
  exact (show Tryd.prog.wantsStandIn t = false by simpa using List.all_eq_true.1 hall t hm)

/-- The card: the statement. -/
theorem card : Rows.SegmentJoinedCardSaid :=
  Claim7.holds_tied_plain_at .later [] _ _ _ _ said (fun _ h => by cases h) (by kernel_rfl) (fun _ h => by cases h) segmentJoined_row_tie rfl ⟨rfl, rfl⟩ (by kernel_rfl) rfl plain (by kernel_rfl)
#print axioms card
end Go.Proofs.YtlfjajdpdnnbnaaDoor.segmentJoined
