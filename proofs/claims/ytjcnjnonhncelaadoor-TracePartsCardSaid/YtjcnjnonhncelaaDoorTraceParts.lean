/-
  TraceParts: for every list of events, cut and time the law returns true: the text of a trace is the concatenation of the texts of its parts. The card TracePartsCardSaid; no condition beyond the given row's.
-/
import Derived.Test.YtjcnjnonhncelaaDoorAwake55
import Derived.Test.YtjcnjnonhncelaaDoorPartsL
import Derived.Test.YtjcnjnonhncelaaDoorOpenTr
import Derived.Test.YtjcnjnonhncelaaDoorErrs
import Derived.Test.YtjcnjnonhncelaaDoorOpen
import Derived.Test.YtjcnjnonhncelaaDoorCards
import Derived.Test.YtjcnjnonhncelaaDoorTie
import Derived.WalkKit
import Derived.ProofKit
import Derived.OpenShut
import Derived.ChangeOld
import Derived.Deep.DeepHandedRow
import Derived.Lib.LaidTab
import Derived.MakeChecks
import Derived.Lib.LaidU8
namespace Go.Proofs.YtjcnjnonhncelaaDoor.traceParts
open Go.ChangeShapes Go.WideShapes Go.ChangeAt Go.RowKit Go.Sort
set_option linter.unusedVariables false

set_option maxHeartbeats 8000000 in
set_option maxRecDepth 100000 in
theorem walk (A : Option Addr) (c : Nat) (l : List Ev) (q : Int) (at_ : Int) (w : World) (hlc : l.length ≤ c) (hcm : c ≤ maxLen) (hx : ∀ e ∈ l, EvIn e) (hA : RdE w A l) (hq : 0 ≤ q ∧ q ≤ 255) (ha : I64 at_) (ht : Tab w.heap.size w) (hE : Errs w) :
    Calls Tryd.prog 6 #[.slice A l.length c, .int .u8 q, .int .i64 at_] w fun e w' => e = .returned (.bool true) ∧ Below w.heap.size w w' := by
  clear hx ha
  have HT := Lib.hid ht
  have HE := Lib.hid hE
  have HA := Lib.hid hA
  have HB := Lib.hid (Below.refl w.heap.size w)
  clear ht hE hA
  obtain ⟨hq0, hq1⟩ := hq
  have hcm' : c ≤ 9223372036854775807 := hcm
  clear hcm
  by_cases h6 : 60 < (l.length : Int)
  · go_enter Tryd.func6, Tryd.ntmps6
    go_wp2_with (go_at_call 9; refine (law55_awake _ (HE.out.up HB.out) (tab_up HT.out HB.out HB.out.size)).mono ?_; rintro e w1 ⟨rfl, hb⟩; replace HB := Lib.hid (below_next HB.out hb); clear hb)
    go_ret
    exact ⟨rfl, HB.out⟩
  have hl : l.length ≤ 60 := by omega
  have HCV : Hid (∀ W, RdE W A l → Calls Tryd.prog 11 #[.slice A l.length c] W fun e w' => e = .returned (.bool (trOk l)) ∧ Below W.heap.size W w') := Lib.hid fun W h => trace_Valid A c l W h (by omega)
  cases hok : trOk l with
  | false =>
    rw [hok] at HCV
    clear hok
    go_enter Tryd.func6, Tryd.ntmps6
    go_wp2_with (first | (go_at_call 9; refine (law55_awake _ (HE.out.up HB.out) (tab_up HT.out HB.out HB.out.size)).mono ?_; rintro e w1 ⟨rfl, hb⟩; replace HB := Lib.hid (below_next HB.out hb); clear hb) | (go_at_call 11; refine (HCV.out _ (HA.out.below HB.out)).mono ?_; rintro e w1 ⟨rfl, hb⟩; replace HB := Lib.hid (below_next HB.out hb); clear hb))
    go_ret
    exact ⟨rfl, HB.out⟩
  | true =>
    rw [hok] at HCV
    obtain ⟨k, hk⟩ : ∃ k : Nat, q % ((l.length : Int) + 1) = (k : Int) := ⟨(q % ((l.length : Int) + 1)).toNat, by have := Int.emod_nonneg q (show ((l.length : Int) + 1) ≠ 0 by omega); omega⟩
    have hkl : k ≤ l.length := by have := Int.emod_lt_of_pos q (show (0 : Int) < (l.length : Int) + 1 by omega); omega
    have hlen1 := trT_len (trOk_take hok k) (l.take k).length (Nat.le_refl _)
    have hlen2 := trT_len (trOk_drop hok k) (l.drop k).length (Nat.le_refl _)
    rw [List.take_length] at hlen1 hlen2
    rw [List.length_take] at hlen1
    rw [List.length_drop] at hlen2
    have HT1 : Hid (∀ W, RdE W A l → Tab W.heap.size W → Calls Tryd.prog 10 #[.slice A k c] W fun e w' => e = .returned (.tuple #[.string ⟨(trT (l.take k)).toArray⟩, .int .i64 0]) ∧ Below W.heap.size W w') := Lib.hid fun W h h2 => by
      have := trace_Text_ok A c (l.take k) W (h.take k) (by rw [List.length_take]; omega) (trOk_take hok k) h2
      rw [List.length_take, Nat.min_eq_left hkl] at this
      exact this
    have HT2 : Hid (∀ A' c' m W, m = l.length - k → RdE W A' (l.drop k) → Tab W.heap.size W → Calls Tryd.prog 10 #[.slice A' m c'] W fun e w' => e = .returned (.tuple #[.string ⟨(trT (l.drop k)).toArray⟩, .int .i64 0]) ∧ Below W.heap.size W w') := Lib.hid fun A' c' m W hm h h2 => by
      have := trace_Text_ok A' c' (l.drop k) W h (by rw [List.length_drop]; omega) (trOk_drop hok k) h2
      rw [List.length_drop] at this
      rw [hm]; exact this
    have HT3 : Hid (∀ W, RdE W A l → Tab W.heap.size W → Calls Tryd.prog 10 #[.slice A l.length c] W fun e w' => e = .returned (.tuple #[.string ⟨(trT l).toArray⟩, .int .i64 0]) ∧ Below W.heap.size W w') := Lib.hid fun W h h2 => trace_Text_ok A c l W h (by omega) hok h2
    have HOK := Lib.hid hok
    have hcut := trT_cut l k
    generalize trT (l.take k) = X at *
    generalize trT (l.drop k) = Y at *
    generalize trT l = Z at *
    have ca : ∀ w', (Op.stringOp .add ⟨X.toArray⟩ ⟨Y.toArray⟩).run Tryd.prog w' = .ok (.string ⟨Z.toArray⟩) w' := fun w' => by rw [← hcut]; exact run_string_add_lists w' X Y (by omega) (by omega)
    clear hok hcut hlen1 hlen2
    have i0 : (0 : Int) ≤ (k : Int) := by omega
    have i1 : (k : Int) ≤ (c : Int) := by omega
    have i2 : (k : Int) ≤ (l.length : Int) := by omega
    have HBET1 : Hid (∀ W, RdE W A l → Calls Tryd.prog 17 #[.slice A l.length c, .int .i64 0, .int .i64 at_] W (RetEO W (betL l 0 at_))) := Lib.hid fun W h => trace_BetweenO A c l 0 at_ W h (by omega)
    have HBET2 : Hid (∀ W, RdE W A l → Calls Tryd.prog 17 #[.slice A l.length c, .int .i64 at_, .int .i64 1073741825] W (RetE W (betL l at_ 1073741825))) := Lib.hid fun W h => trace_Between A c l at_ 1073741825 W h (by omega)
    have HSM : Hid (∀ B d W, RdE W B l → RdE W A l → Calls Tryd.prog 16 #[.slice B l.length d, .slice A l.length c] W fun e w' => e = .returned (.bool true) ∧ Below W.heap.size W w') := Lib.hid fun B d W h1 h2 => by
      have := ref55_Same B A d c l l W h1 h2 (by omega)
      rwa [sameE_refl] at this
    by_cases hck : c = k
    · have HDE : Hid (l.drop k = []) := Lib.hid (List.drop_of_length_le (by omega))
      have HT0 : Hid (∀ A' W, Tab W.heap.size W → Calls Tryd.prog 10 #[.slice A' 0 0] W fun e w' => e = .returned (.tuple #[.string ⟨Y.toArray⟩, .int .i64 0]) ∧ Below W.heap.size W w') := Lib.hid fun A' W h2 => HT2.out A' 0 0 W (by omega) (.inl HDE.out) h2
      clear HT2 HDE
      subst hck
      by_cases ha0 : at_ < 0
      · go_enter Tryd.func6, Tryd.ntmps6
        go_wp2_with (first | (go_at_call 9; refine (law55_awake _ (HE.out.up HB.out) (tab_up HT.out HB.out HB.out.size)).mono ?_; rintro e w1 ⟨rfl, hb⟩; replace HB := Lib.hid (below_next HB.out hb); clear hb) | (go_at_call 11; refine (HCV.out _ (HA.out.below HB.out)).mono ?_; rintro e w1 ⟨rfl, hb⟩; replace HB := Lib.hid (below_next HB.out hb); clear hb) | (go_at_call 10; (with_reducible refine (HT1.out _ (HA.out.below HB.out) (tab_up HT.out HB.out HB.out.size)).mono ?_); rintro e w1 ⟨rfl, hb⟩; replace HB := Lib.hid (below_next HB.out hb); clear hb) | (go_at_call 10; (with_reducible refine (HT3.out _ (HA.out.below HB.out) (tab_up HT.out HB.out HB.out.size)).mono ?_); rintro e w1 ⟨rfl, hb⟩; replace HB := Lib.hid (below_next HB.out hb); clear hb) | (go_at_call 10; (with_reducible refine (HT0.out _ _ (tab_up HT.out HB.out HB.out.size)).mono ?_); rintro e w1 ⟨rfl, hb⟩; replace HB := Lib.hid (below_next HB.out hb); clear hb))
        go_ret
        exact ⟨rfl, HB.out⟩
      by_cases ha1 : 1073741824 < at_
      · go_enter Tryd.func6, Tryd.ntmps6
        go_wp2_with (first | (go_at_call 9; refine (law55_awake _ (HE.out.up HB.out) (tab_up HT.out HB.out HB.out.size)).mono ?_; rintro e w1 ⟨rfl, hb⟩; replace HB := Lib.hid (below_next HB.out hb); clear hb) | (go_at_call 11; refine (HCV.out _ (HA.out.below HB.out)).mono ?_; rintro e w1 ⟨rfl, hb⟩; replace HB := Lib.hid (below_next HB.out hb); clear hb) | (go_at_call 10; (with_reducible refine (HT1.out _ (HA.out.below HB.out) (tab_up HT.out HB.out HB.out.size)).mono ?_); rintro e w1 ⟨rfl, hb⟩; replace HB := Lib.hid (below_next HB.out hb); clear hb) | (go_at_call 10; (with_reducible refine (HT3.out _ (HA.out.below HB.out) (tab_up HT.out HB.out HB.out.size)).mono ?_); rintro e w1 ⟨rfl, hb⟩; replace HB := Lib.hid (below_next HB.out hb); clear hb) | (go_at_call 10; (with_reducible refine (HT0.out _ _ (tab_up HT.out HB.out HB.out.size)).mono ?_); rintro e w1 ⟨rfl, hb⟩; replace HB := Lib.hid (below_next HB.out hb); clear hb))
        go_ret
        exact ⟨rfl, HB.out⟩
      have HWH : Hid (betL l 0 at_ ++ betL l at_ 1073741825 = l) := Lib.hid (bet_whole at_ 1073741825 (by omega) (by omega) l.length l rfl HOK.out)
      have hn1 : (betL l 0 at_).length ≤ 60 := Nat.le_trans (List.length_filter_le _ _) hl
      have hn2 : (betL l at_ 1073741825).length ≤ 60 := Nat.le_trans (List.length_filter_le _ _) hl
      generalize betL l 0 at_ = M1 at *
      generalize betL l at_ 1073741825 = M2 at *
      obtain ⟨i0', hi, hz0, hz1, hz2⟩ := info_parts evInfo
      go_enter Tryd.func6, Tryd.ntmps6
      go_wp2_with (first | (go_at_call 9; refine (law55_awake _ (HE.out.up HB.out) (tab_up HT.out HB.out HB.out.size)).mono ?_; rintro e w1 ⟨rfl, hb⟩; replace HB := Lib.hid (below_next HB.out hb); clear hb) | (go_at_call 11; refine (HCV.out _ (HA.out.below HB.out)).mono ?_; rintro e w1 ⟨rfl, hb⟩; replace HB := Lib.hid (below_next HB.out hb); clear hb) | (go_at_call 10; (with_reducible refine (HT1.out _ (HA.out.below HB.out) (tab_up HT.out HB.out HB.out.size)).mono ?_); rintro e w1 ⟨rfl, hb⟩; replace HB := Lib.hid (below_next HB.out hb); clear hb) | (go_at_call 10; (with_reducible refine (HT3.out _ (HA.out.below HB.out) (tab_up HT.out HB.out HB.out.size)).mono ?_); rintro e w1 ⟨rfl, hb⟩; replace HB := Lib.hid (below_next HB.out hb); clear hb) | (go_at_call 10; (with_reducible refine (HT0.out _ _ (tab_up HT.out HB.out HB.out.size)).mono ?_); rintro e w1 ⟨rfl, hb⟩; replace HB := Lib.hid (below_next HB.out hb); clear hb) | (go_at_call 17; (with_reducible refine (HBET1.out _ (HA.out.below HB.out)).mono ?_); rintro e wa ⟨va, rfl, hra, hb⟩; have hw0 := HB.out.size; have HRA := Lib.hid hra; have hwa := hb.size; replace HB := Lib.hid (below_next HB.out hb); clear hb hra) | (go_at_call 17; (with_reducible refine (HBET2.out _ (HA.out.below HB.out)).mono ?_); rintro e wb ⟨Ab, cb, rfl, _, _, hrb, hb⟩; have HRB := Lib.hid hrb; have hwb := hb.size; replace HRA := Lib.hid (own_up HRA.out hb); replace HB := Lib.hid (below_next HB.out hb); clear hb hrb) | (at_builtin; refine wpList_app_rows _ rfl _ _ 22 rfl _ 40 i0' (.agg #[.int .i64 0, .int .i64 0, .int .i64 0, .int .i64 0, .int .i64 0, .int .i64 0]) 48 Tryd.underlying22 hi hz0 6 (by decide) hz1 hz2 rfl _ _ _ rfl HRA.out _ _ _ (evL M2) rfl (by rw [evL_len]; omega) (rd_of_rde HRB.out) (evL_one M2) (by unfold maxLen; omega) (by omega) (by omega) ?_))
      intro v' w' hown hg
      have hlen : M1.length + M2.length = l.length := by rw [← List.length_append, HWH.out]
      rw [← evL_app, HWH.out, hlen] at hown
      have HB2 := Lib.hid (HB.out.grown hg HB.out.size (fun k hk => Nat.le_trans hw0 (HRA.out.lt k hk).1))
      obtain ⟨A', c', rfl, _, _, hrd⟩ := rde_of_own hown
      have HRD := Lib.hid hrd
      clear hown hg hrd HB
      have HB := HB2
      clear HB2
      go_wp2_with (go_at_call 16; refine (HSM.out _ _ _ HRD.out (HA.out.below HB.out)).mono ?_; rintro e w1 ⟨rfl, hb⟩; replace HB := Lib.hid (below_next HB.out hb); clear hb)
      go_ret
      exact ⟨rfl, HB.out⟩
    · have hck' : (c == k) = false := by rw [beq_eq_false_iff_ne]; exact hck
      by_cases ha0 : at_ < 0
      · go_enter Tryd.func6, Tryd.ntmps6
        go_wp2_with (first | (go_at_call 9; refine (law55_awake _ (HE.out.up HB.out) (tab_up HT.out HB.out HB.out.size)).mono ?_; rintro e w1 ⟨rfl, hb⟩; replace HB := Lib.hid (below_next HB.out hb); clear hb) | (go_at_call 11; refine (HCV.out _ (HA.out.below HB.out)).mono ?_; rintro e w1 ⟨rfl, hb⟩; replace HB := Lib.hid (below_next HB.out hb); clear hb) | (go_at_call 10; (with_reducible refine (HT1.out _ (HA.out.below HB.out) (tab_up HT.out HB.out HB.out.size)).mono ?_); rintro e w1 ⟨rfl, hb⟩; replace HB := Lib.hid (below_next HB.out hb); clear hb) | (go_at_call 10; (with_reducible refine (HT3.out _ (HA.out.below HB.out) (tab_up HT.out HB.out HB.out.size)).mono ?_); rintro e w1 ⟨rfl, hb⟩; replace HB := Lib.hid (below_next HB.out hb); clear hb) | (go_at_call 10; (with_reducible refine (HT2.out _ _ _ _ rfl ((HA.out.below HB.out).drop k) (tab_up HT.out HB.out HB.out.size)).mono ?_); rintro e w1 ⟨rfl, hb⟩; replace HB := Lib.hid (below_next HB.out hb); clear hb))
        go_ret
        exact ⟨rfl, HB.out⟩
      by_cases ha1 : 1073741824 < at_
      · go_enter Tryd.func6, Tryd.ntmps6
        go_wp2_with (first | (go_at_call 9; refine (law55_awake _ (HE.out.up HB.out) (tab_up HT.out HB.out HB.out.size)).mono ?_; rintro e w1 ⟨rfl, hb⟩; replace HB := Lib.hid (below_next HB.out hb); clear hb) | (go_at_call 11; refine (HCV.out _ (HA.out.below HB.out)).mono ?_; rintro e w1 ⟨rfl, hb⟩; replace HB := Lib.hid (below_next HB.out hb); clear hb) | (go_at_call 10; (with_reducible refine (HT1.out _ (HA.out.below HB.out) (tab_up HT.out HB.out HB.out.size)).mono ?_); rintro e w1 ⟨rfl, hb⟩; replace HB := Lib.hid (below_next HB.out hb); clear hb) | (go_at_call 10; (with_reducible refine (HT3.out _ (HA.out.below HB.out) (tab_up HT.out HB.out HB.out.size)).mono ?_); rintro e w1 ⟨rfl, hb⟩; replace HB := Lib.hid (below_next HB.out hb); clear hb) | (go_at_call 10; (with_reducible refine (HT2.out _ _ _ _ rfl ((HA.out.below HB.out).drop k) (tab_up HT.out HB.out HB.out.size)).mono ?_); rintro e w1 ⟨rfl, hb⟩; replace HB := Lib.hid (below_next HB.out hb); clear hb))
        go_ret
        exact ⟨rfl, HB.out⟩
      have HWH : Hid (betL l 0 at_ ++ betL l at_ 1073741825 = l) := Lib.hid (bet_whole at_ 1073741825 (by omega) (by omega) l.length l rfl HOK.out)
      have hn1 : (betL l 0 at_).length ≤ 60 := Nat.le_trans (List.length_filter_le _ _) hl
      have hn2 : (betL l at_ 1073741825).length ≤ 60 := Nat.le_trans (List.length_filter_le _ _) hl
      generalize betL l 0 at_ = M1 at *
      generalize betL l at_ 1073741825 = M2 at *
      obtain ⟨i0', hi, hz0, hz1, hz2⟩ := info_parts evInfo
      go_enter Tryd.func6, Tryd.ntmps6
      go_wp2_with (first | (go_at_call 9; refine (law55_awake _ (HE.out.up HB.out) (tab_up HT.out HB.out HB.out.size)).mono ?_; rintro e w1 ⟨rfl, hb⟩; replace HB := Lib.hid (below_next HB.out hb); clear hb) | (go_at_call 11; refine (HCV.out _ (HA.out.below HB.out)).mono ?_; rintro e w1 ⟨rfl, hb⟩; replace HB := Lib.hid (below_next HB.out hb); clear hb) | (go_at_call 10; (with_reducible refine (HT1.out _ (HA.out.below HB.out) (tab_up HT.out HB.out HB.out.size)).mono ?_); rintro e w1 ⟨rfl, hb⟩; replace HB := Lib.hid (below_next HB.out hb); clear hb) | (go_at_call 10; (with_reducible refine (HT3.out _ (HA.out.below HB.out) (tab_up HT.out HB.out HB.out.size)).mono ?_); rintro e w1 ⟨rfl, hb⟩; replace HB := Lib.hid (below_next HB.out hb); clear hb) | (go_at_call 10; (with_reducible refine (HT2.out _ _ _ _ rfl ((HA.out.below HB.out).drop k) (tab_up HT.out HB.out HB.out.size)).mono ?_); rintro e w1 ⟨rfl, hb⟩; replace HB := Lib.hid (below_next HB.out hb); clear hb) | (go_at_call 17; (with_reducible refine (HBET1.out _ (HA.out.below HB.out)).mono ?_); rintro e wa ⟨va, rfl, hra, hb⟩; have hw0 := HB.out.size; have HRA := Lib.hid hra; have hwa := hb.size; replace HB := Lib.hid (below_next HB.out hb); clear hb hra) | (go_at_call 17; (with_reducible refine (HBET2.out _ (HA.out.below HB.out)).mono ?_); rintro e wb ⟨Ab, cb, rfl, _, _, hrb, hb⟩; have HRB := Lib.hid hrb; have hwb := hb.size; replace HRA := Lib.hid (own_up HRA.out hb); replace HB := Lib.hid (below_next HB.out hb); clear hb hrb) | (at_builtin; refine wpList_app_rows _ rfl _ _ 22 rfl _ 40 i0' (.agg #[.int .i64 0, .int .i64 0, .int .i64 0, .int .i64 0, .int .i64 0, .int .i64 0]) 48 Tryd.underlying22 hi hz0 6 (by decide) hz1 hz2 rfl _ _ _ rfl HRA.out _ _ _ (evL M2) rfl (by rw [evL_len]; omega) (rd_of_rde HRB.out) (evL_one M2) (by unfold maxLen; omega) (by omega) (by omega) ?_))
      intro v' w' hown hg
      have hlen : M1.length + M2.length = l.length := by rw [← List.length_append, HWH.out]
      rw [← evL_app, HWH.out, hlen] at hown
      have HB2 := Lib.hid (HB.out.grown hg HB.out.size (fun k hk => Nat.le_trans hw0 (HRA.out.lt k hk).1))
      obtain ⟨A', c', rfl, _, _, hrd⟩ := rde_of_own hown
      have HRD := Lib.hid hrd
      clear hown hg hrd HB
      have HB := HB2
      clear HB2
      go_wp2_with (go_at_call 16; refine (HSM.out _ _ _ HRD.out (HA.out.below HB.out)).mono ?_; rintro e w1 ⟨rfl, hb⟩; replace HB := Lib.hid (below_next HB.out hb); clear hb)
      go_ret
      exact ⟨rfl, HB.out⟩

theorem own : ownKnob Tryd.prog.godebug = none := by kernel_rfl
theorem laidOut : laidOutB Tryd.prog = true := by kernel_rfl
theorem gTab : Tryd.prog.globalNamed "internal/strconv.uint64pow10" = some 3 := by kernel_rfl
theorem gTabType : (Tryd.prog.globals[(3 : Nat)]?).map (·.type) = some 169 := by kernel_rfl
set_option maxRecDepth 100000 in
theorem table {W : World} (h : laidMetH Tryd.prog Rows.tracePartsRow.laid W) : Lib.TabIs Tryd.prog W "internal/strconv.uint64pow10" .u64 Lib.pow10Tab :=
  by
  rw [Go.MakeChecks.laidMetH_plain _ _ _ (by kernel_rfl)] at h
  have hm : ("internal/strconv.uint64pow10", Rows.laid_internal_strconv_uint64pow10) ∈ Rows.tracePartsRow.laid := by simp [Rows.tracePartsRow]
  rw [show (Rows.laid_internal_strconv_uint64pow10 : DataW Unit) = Lib.tabData .u64 Lib.pow10Tab by kernel_rfl] at hm
  obtain ⟨g', t', cs, fuel, p, hg', ht', hvar, hd⟩ := Lib.laidMet.reads h hm
  obtain rfl := Option.some.inj (gTab.symm.trans hg')
  obtain rfl := Option.some.inj (gTabType.symm.trans ht')
  unfold Lib.TabIs
  rw [hvar, ← Lib.cells_of_tab Tryd.underlying169 Tryd.underlying130 (by kernel_rfl) (by kernel_rfl) hd]

set_option maxRecDepth 100000 in
theorem errs {W : World} (h : laidMetH Tryd.prog Rows.tracePartsRow.laid W) : Errs W := by
  rw [Go.MakeChecks.laidMetH_plain _ _ _ (by kernel_rfl)] at h
  exact errs_of (laidMet.tail (laidMet.tail (laidMet.tail (laidMet.tail h))))

set_option maxHeartbeats 1000000 in
set_option maxRecDepth 100000 in
/-- For every argument and every world that holds the tables. -/
theorem contract (H : Type) (enc : TypeId × Value → H) (W : World) (base : Nat) (args : Array Value) (ds gs : List (DataW H)) (before : List MemPlace)
    (hval : ∀ (j : Nat) t v, Tryd.f6.params[j]? = some t → args[j]? = some v → Value.okWide Tryd.prog W .any base t v)
    (hW : DataW.Whole enc Tryd.prog Tryd.f6.params.toList Rows.tracePartsSpec.vars false W args.toList ds gs before) (hL : laidMetH Tryd.prog Rows.tracePartsRow.laid W) :
    Calls Tryd.prog 6 args W fun e W' => ∃ v, e = .returned v ∧ Rows.tracePartsSpec.post enc Tryd.prog Tryd.f6 false true false false W args v W' := by
  have hW' := hW
  obtain ⟨p, q, hAll, hV, rfl, hfz, hnd⟩ := hW
  have hA : DataW.TrodAll enc Tryd.prog W 0 (fun _ => true) true Tryd.f6.params.toList args.toList ds p := hAll
  rw [Tryd.params6] at hA hval
  obtain ⟨v0, vs0, d0, ds0, p0, q0, hargs, rfl, rfl, h0, r0⟩ := trodAll_cons hA
  obtain ⟨v1, vs1, d1, ds1, p1, q1, rfl, rfl, rfl, h1, r1⟩ := trodAll_cons r0
  obtain ⟨v2, vs2, d2, ds2, p2, q2, rfl, rfl, rfl, h2, r2⟩ := trodAll_cons r1
  obtain ⟨rfl, rfl, rfl⟩ := trodAll_nil r2
  obtain rfl : args = #[v0, v1, v2] := by cases args; simp_all
  obtain ⟨rfl, rfl⟩ := trodVars_none hV
  have k0 := h0
  have lt0 : ∀ x ∈ p0, x.block < W.heap.size := by obtain ⟨m, hm⟩ := k0; exact DataW.trod_lt m _ _ _ hm
  obtain ⟨A0, c0, l0, rfl, hlc0, hcm0, hx0, hA0⟩ := open_evs (hval 0 22 v0 rfl rfl) h0
  have k1 := h1
  have lt1 : ∀ x ∈ p1, x.block < W.heap.size := by obtain ⟨m, hm⟩ := k1; exact DataW.trod_lt m _ _ _ hm
  obtain ⟨x1, rfl, hx1⟩ := open_u8 Tryd.underlying5 (hval 1 5 v1 rfl rfl) h1
  have k2 := h2
  have lt2 : ∀ x ∈ p2, x.block < W.heap.size := by obtain ⟨m, hm⟩ := k2; exact DataW.trod_lt m _ _ _ hm
  obtain ⟨x2, rfl, hx2⟩ := open_i64 Tryd.underlying3 (hval 2 3 v2 rfl rfl) h2
  clear hAll
  refine (walk A0 c0 l0 x1 x2 W hlc0 hcm0 hx0 hA0 hx1 hx2 (Lib.tabBelow_of_tabIs (table hL)) (errs hL)).mono fun e W' ⟨he, bel⟩ => ?_
  subst he
  exact ⟨_, rfl, _, _, _, [], _, [], hW', trodAll_mk1 (shut_bool Tryd.underlying4 _), (trodAll_cons_mk (Below.trod laidOut (by kernel_rfl) (of_decide_eq_true (by kernel_rfl)) k0 bel lt0) (trodAll_cons_mk (Below.trod laidOut (by kernel_rfl) (of_decide_eq_true (by kernel_rfl)) k1 bel lt1) (trodAll_cons_mk (Below.trod laidOut (by kernel_rfl) (of_decide_eq_true (by kernel_rfl)) k2 bel lt2) trodAll_mk0))), rfl, bel.frame _, fun h => by cases h⟩

/-- The cells of a laid table. -/
def litCells : DataW Unit → List Value
  | .lit (.int k n) => [Value.int k n]
  | _ => []
def aggCells : DataW Unit → List Value
  | .agg ds => ds.flatMap litCells
  | d => litCells d
def tabCells : DataW Unit → Array Value
  | .agg ds => (ds.flatMap aggCells).toArray
  | _ => #[]
def layTab (c : Array Value) : Obj → Obj
  | .cells _ t frozen => .cells c t frozen
  | o => o
/-- A world for the witness: the settled one, the tables holding what their initialisers lay. -/
noncomputable def low : Nat := (World.holding Tryd.prog default ⟨#[], #[], []⟩).heap.size
noncomputable def heldWorld (os : Os) : World := World.holding Tryd.prog os ⟨#[.cells #[.string ⟨#[118, 97, 108, 117, 101, 32, 111, 117, 116, 32, 111, 102, 32, 114, 97, 110, 103, 101]⟩] 189, .cells #[.string ⟨#[105, 110, 118, 97, 108, 105, 100, 32, 115, 121, 110, 116, 97, 120]⟩] 189], #[], []⟩
noncomputable def laidWorld (os : Os) : World :=
  { heldWorld os with heap := ((((((((heldWorld os).heap.modify 6 (layTab (tabCells Rows.laid_math_bits_deBruijn32tab))).modify 7 (layTab (tabCells Rows.laid_math_bits_deBruijn64tab))).modify 3 (layTab (tabCells Rows.laid_internal_strconv_uint64pow10))).modify 1 (layTab (tabCells Rows.laid_unicode_utf8_acceptRanges))).modify 5 (layTab #[.iface 187 (.pointer (some ⟨low, 0, none⟩))])).modify 4 (layTab #[.iface 187 (.pointer (some ⟨low + 1, 0, none⟩))])).modify 0 (layTab (tabCells Rows.laid_unicode_utf8_first))) }
set_option maxRecDepth 100000 in
theorem laid_met (os : Os) : laidMet Tryd.prog Rows.tracePartsRow.laid ((laidWorld os).forCall (fun _ _ => 0) ⟨#[], #[.slice none 0 0, .int .u8 0, .int .i64 0], []⟩).memory :=
  laidMet_of_run' 8 (by kernel_rfl) (by kernel_rfl)
set_option maxRecDepth 100000 in
theorem reads (os : Os) {H : Type} (enc : TypeId × Value → H) : ∃ places, DataW.whole enc Tryd.prog ((laidWorld os).forCall (fun _ _ => 0) ⟨#[], #[.slice none 0 0, .int .u8 0, .int .i64 0], []⟩).memory Tryd.f6.params.toList Rows.tracePartsSpec.vars false (#[.slice none 0 0, .int .u8 0, .int .i64 0] : Array Value).toList 8 = some ([.nil, .lit (.int .u8 0), .lit (.int .i64 0)], [], places) :=
  ⟨[], by kernel_rfl⟩

set_option maxRecDepth 100000 in
theorem lifted (os : Os) (started : os.Started) (H : Type) (enc : TypeId × Value → H) (F : Stop.Interp) :
    ReturnsInHanded {} Tryd.checked os 6 .any ((OpenSpec.ofChange Rows.tracePartsSpec).preRow enc Tryd.prog Tryd.f6 Rows.tracePartsRow.domain false Rows.tracePartsRow.laid) (((OpenSpec.ofChange Rows.tracePartsSpec).at F).post enc Tryd.prog Tryd.f6 false true false false) := by
  obtain ⟨places, hx⟩ := reads os enc
  refine returnsInHanded_of_row (C := Tryd.checked) (s := OpenSpec.ofChange Rows.tracePartsSpec) own started (by kernel_rfl) Tryd.func6
    (witness_row_at (enc := enc) (C := Tryd.checked) false (laidWorld os) #[.slice none 0 0, .int .u8 0, .int .i64 0] rfl (by kernel_rfl) (by kernel_rfl) (by kernel_rfl)
      (OpenSpec.preRow_of_cond 8 hx (by kernel_rfl) (fun k hk => by cases hk) (by kernel_rfl) (laid_met os))) ?_
  intro W base args ds gs before hval hW _ _ _ hL _ _
  exact contract H enc W base args ds gs before hval hW hL

set_option maxRecDepth 100000 in
theorem said : Rows.TracePartsSaid :=
  OpenClaim.holds_of_cond 6 Tryd.f6 rfl rfl rfl rfl rfl rfl rfl ⟨rfl, rfl, rfl, rfl, rfl⟩ rfl rfl rfl rfl rfl (by kernel_rfl) Tryd.func6 (by kernel_rfl)
    (of_decide_eq_true (by kernel_rfl)) (by unfold Func.isWrapper; first | (rw [if_pos (by decide +kernel)]; kernel_rfl) | (rw [if_neg (by decide +kernel)]; exact ⟨rfl, rfl⟩))
    (fun os started H enc _ F => by rw [OpenClaim.pre_eq_preRow]; exact lifted os started H enc F)

set_option maxRecDepth 100000 in
theorem plain (f : FuncId) (fn : Func) (hf : Tryd.pinned.checked.prog.funcNamed "waypoint/waypointlaw55.TraceParts" = some f) (hfn : Tryd.pinned.checked.prog.funcs[f]? = some fn) :
    true = Tryd.pinned.checked.prog.looks [] ∧ ∀ (j : Nat) t, fn.params[j]? = some t → Tryd.pinned.checked.prog.wantsStandIn t = false := by
  obtain rfl : f = 6 := Option.some.inj ((show Tryd.prog.funcNamed "waypoint/waypointlaw55.TraceParts" = some 6 by kernel_rfl).symm.trans hf) |>.symm
  obtain rfl : fn = Tryd.f6 := (Option.some.inj (Tryd.func6.symm.trans hfn)).symm
  refine ⟨by kernel_rfl, fun j t ht => ?_⟩
  rw [Tryd.params6] at ht
  have hm : t ∈ [22, 5, 3] := by simpa using Array.mem_of_getElem? ht
  have hall : ([22, 5, 3].all fun u => !Tryd.prog.wantsStandIn u) = true := by kernel_rfl
  exact (show Tryd.prog.wantsStandIn t = false by simpa using List.all_eq_true.1 hall t hm)

/-- The card: the statement. -/
theorem card : Rows.TracePartsCardSaid :=
  Claim7.holds_tied_plain_at .later [] _ _ _ _ said (fun _ h => by cases h) (by kernel_rfl) (fun _ h => by cases h) traceParts_row_tie rfl ⟨rfl, rfl⟩ (by kernel_rfl) rfl plain (by kernel_rfl)
#print axioms card
end Go.Proofs.YtjcnjnonhncelaaDoor.traceParts
