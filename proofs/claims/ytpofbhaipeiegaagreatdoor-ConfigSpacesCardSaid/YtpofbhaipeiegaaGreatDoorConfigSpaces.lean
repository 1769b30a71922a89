/-
  ConfigSpaces: for every text and every list of bytes the law returns true: comments, empty lines and additional spaces and tabs change nothing but the numbers of lines. The card ConfigSpacesCardSaid; no condition beyond the given row's.
-/
import Derived.Test.YtpofbhaipeiegaaGreatDoorCfgSw
import Derived.Test.YtpofbhaipeiegaaGreatDoorCfgSm
import Derived.Test.YtpofbhaipeiegaaGreatDoorBuilder
import Derived.Test.YtpofbhaipeiegaaGreatDoorErrs
import Derived.Test.YtpofbhaipeiegaaGreatDoorOpen
import Derived.Test.YtpofbhaipeiegaaGreatDoorCards
import Derived.Test.YtpofbhaipeiegaaGreatDoorTie
import Derived.WalkKit
import Derived.ProofKit
import Derived.OpenShut
import Derived.ChangeOld
import Derived.Deep.DeepHandedRow
import Derived.Lib.LaidTab
import Derived.MakeChecks
import Derived.Lib.LaidU8
namespace Go.Proofs.YtpofbhaipeiegaaGreatDoor.configSpaces
open Go.ChangeShapes Go.WideShapes Go.ChangeAt Go.RowKit Go.Sort
set_option linter.unusedVariables false

set_option linter.unusedSimpArgs false
set_option maxHeartbeats 16000000 in
set_option maxRecDepth 100000 in
theorem walk (s : List UInt8) (A : Option Addr) (cw : Nat) (ks : List Int) (w : World) (hs : s.length ≤ maxLen) (hlc : ks.length ≤ cw) (hcm : cw ≤ maxLen) (hx : ∀ x ∈ ks, 0 ≤ x ∧ x ≤ 255) (hA : Rd w A (ks.map (Value.int .u8))) (ht : Tab w.heap.size w) (hE : Errs w) (hM : ∃ m, w.cell? ⟨0, 0, none⟩ = some (.int .i64 m)) :
    Calls Tryz.prog 5 #[.string ⟨s.toArray⟩, .slice A ks.length cw] w fun e w' => e = .returned (.bool true) ∧ Below w.heap.size w w' := by
  have hks : (ks.length : Int) ≤ (maxLen : Int) := by have := Nat.le_trans hlc hcm; omega
  clear hs hlc hcm
  have HT := Lib.hid ht
  have HE := Lib.hid hE
  have HA := Lib.hid hA
  have HX := Lib.hid hx
  have HB := Lib.hid (Below.refl w.heap.size w)
  obtain ⟨m, hM⟩ := hM
  have HM := Lib.hid hM
  clear ht hE hA hx hM
  by_cases h7 : 3000 < (s.length : Int)
  · go_enter Tryz.func5, Tryz.ntmps5
    go_wp2_with (go_at_call 8; refine (law15_awake _ (HE.out.up HB.out) (tab_up HT.out HB.out HB.out.size)).mono ?_; rintro e w1 ⟨rfl, hb⟩; replace HB := Lib.hid (below_next HB.out hb); clear hb)
    go_ret
    exact ⟨rfl, HB.out⟩
  by_cases h8 : 100 < (ks.length : Int)
  · go_enter Tryz.func5, Tryz.ntmps5
    go_wp2_with (go_at_call 8; refine (law15_awake _ (HE.out.up HB.out) (tab_up HT.out HB.out HB.out.size)).mono ?_; rintro e w1 ⟨rfl, hb⟩; replace HB := Lib.hid (below_next HB.out hb); clear hb)
    go_ret
    exact ⟨rfl, HB.out⟩
  have hsl : s.length ≤ 3000 := by omega
  have hkl : ks.length ≤ 100 := by omega
  obtain ⟨kn, hkn⟩ : ∃ kn, kn = ks.map Int.toNat := ⟨_, rfl⟩
  have hknl : kn.length = ks.length := by rw [hkn, List.length_map]
  have HKN : Hid (∀ k, (if h : k < ks.length then ks[k].toNat else 0) = kn.getD k 0) := Lib.hid fun k => by
    rw [hkn, List.getD_eq_getElem?_getD, List.getElem?_map]
    by_cases h : k < ks.length
    · rw [dif_pos h, List.getElem?_eq_getElem h]; rfl
    · rw [dif_neg h, List.getElem?_eq_none (by omega)]; rfl
  have HC1 := Lib.hid (spaces_Parse1 s hsl)
  have HC2 := Lib.hid (fun W => spaces_Parse2 s kn hsl (by omega) W)
  have hTl := unlines_len (splitK 10 [] s) kn
  have hsum := splitK_sum s
  have hno := splitK_len 10 [] s
  obtain ⟨ps, hps⟩ : ∃ ps, ps = splitK 10 [] s := ⟨_, rfl⟩
  have HPL : Hid (∀ l ∈ ps, l.length ≤ 3000) := Lib.hid fun l hl => Nat.le_trans (splitK_mem (hps ▸ hl)) hsl
  have HSP : Hid (∀ w', Calls Tryz.prog 12 #[.string ⟨s.toArray⟩, .string ⟨#[10]⟩] w' fun e w'' => e = .returned (.slice (some ⟨w'.heap.size, 0, none⟩) ps.length ps.length) ∧ w'' = w'.alloc (.cells (ps.map fun l => Value.string ⟨l.toArray⟩).toArray 9)) := Lib.hid fun w' => by
    rw [hps]; exact strings_Split1 10 s (by omega) w'
  have hnl := resK_line s
  rw [← hps] at HC2 hTl hsum hno hnl
  obtain ⟨T, hT⟩ : ∃ T, T = unlines (spL kn ps) := ⟨_, rfl⟩
  rw [← hT] at HC2 hTl
  have hTn : T.length ≤ 13000 := by omega
  have hpl : ps.length ≤ 3001 := by omega
  have HT0 : Hid (([] : List UInt8) ++ unlines (spL (kn.drop 0) (ps.drop 0)) = T) := Lib.hid (by rw [hT]; simp)
  generalize (resK (parseC s)).1 = nn at HC1 HC2
  generalize (resK (parseC s)).2.1 = c at HC1 HC2
  generalize (resK (parseC s)).2.2.1 = n at HC1 HC2 hnl
  generalize (resK (parseC s)).2.2.2 = x at HC1 HC2
  obtain ⟨N, hN⟩ : ∃ N, N = addN kn n := ⟨_, rfl⟩
  rw [← hN] at HC2
  have HN0 : Hid (0 + addN (kn.drop 0) (n - 0) = N) := Lib.hid (by rw [hN]; simp)
  have hNl : N ≤ 100 := by
    have h1 : addN kn n ≤ kn.length := by
      unfold addN
      refine Nat.le_trans (List.length_filter_le _ _) ?_
      rw [List.length_take]; omega
    omega
  have HN1 : Hid (n = 0 → N = 0) := Lib.hid (fun e => by rw [hN, e]; simp [addN])
  clear hT hps hkn hN hsum hTl hno
  have HSM : Hid (∀ W r r', SLim c → CAt W r c → CAt W r' c → Calls Tryz.prog 17 #[.agg #[.slice r.aN c.names.length r.cN, .slice r.aL c.lnames.length r.cL, .int .i64 nn, .slice r.aO c.ov.length r.cO, .slice r.aK c.links.length r.cK, .slice r.aP c.pfx.length r.cP, .slice r.aQ c.pols.length r.cQ, .slice r.aD c.dems.length r.cD, .int .i64 (c.tm[0]?.getD 0), .int .i64 (c.tm[1]?.getD 0), .int .i64 (c.tm[2]?.getD 0), .int .i64 (c.tm[3]?.getD 0), .int .i64 (c.tm[4]?.getD 0)], .agg #[.slice r'.aN c.names.length r'.cN, .slice r'.aL c.lnames.length r'.cL, .int .i64 nn, .slice r'.aO c.ov.length r'.cO, .slice r'.aK c.links.length r'.cK, .slice r'.aP c.pfx.length r'.cP, .slice r'.aQ c.pols.length r'.cQ, .slice r'.aD c.dems.length r'.cD, .int .i64 (c.tm[0]?.getD 0), .int .i64 (c.tm[1]?.getD 0), .int .i64 (c.tm[2]?.getD 0), .int .i64 (c.tm[3]?.getD 0), .int .i64 (c.tm[4]?.getD 0)]] W fun e W' => e = .returned (.bool true) ∧ Below W.heap.size W W') := Lib.hid fun W r r' hl h1 h2 => ref15_Same_eq nn r r' c hl W h1 h2
  have HSP2 : Hid (∀ w' bk, w'.heap.size = bk → Calls Tryz.prog 12 #[.string ⟨s.toArray⟩, .string ⟨#[10]⟩] w' fun e w'' => e = .returned (.slice (some ⟨bk, 0, none⟩) ps.length ps.length) ∧ w'' = w'.alloc (.cells (ps.map fun l => Value.string ⟨l.toArray⟩).toArray 9)) := Lib.hid fun w' bk h => by rw [← h]; exact HSP.out w'
  clear HSP
  go_enter Tryz.func5, Tryz.ntmps5
  go_wp2_with (first | (go_at_call 8; refine (law15_awake _ (HE.out.up HB.out) (tab_up HT.out HB.out HB.out.size)).mono ?_; rintro e w1 ⟨rfl, hb⟩; replace HB := Lib.hid (below_next HB.out hb); clear hb) | (go_at_call 11; refine (HC1.out _ (HE.out.up HB.out) (tab_up HT.out HB.out HB.out.size)).mono ?_; rintro e w2 ⟨⟨r, rfl, hcat, hslim⟩, hb⟩; replace HB := Lib.hid (below_next HB.out hb); have HCA := Lib.hid hcat; have HSL := Lib.hid hslim; clear hb HC1 hcat hslim; unfold cfCells) | (go_at_call 12; refine (HSP2.out _ (w2.heap.size + 1 + 1) (by simp)).mono ?_; rintro e w3 ⟨rfl, hw3⟩; obtain ⟨wb, hwb, hs3⟩ : ∃ wb, wb = w2.alloc (.cells #[.slice r.aN c.names.length r.cN, .slice r.aL c.lnames.length r.cL, .int .i64 nn, .slice r.aO c.ov.length r.cO, .slice r.aK c.links.length r.cK, .slice r.aP c.pfx.length r.cP, .slice r.aQ c.pols.length r.cQ, .slice r.aD c.dems.length r.cD, .int .i64 (c.tm[0]?.getD 0), .int .i64 (c.tm[1]?.getD 0), .int .i64 (c.tm[2]?.getD 0), .int .i64 (c.tm[3]?.getD 0), .int .i64 (c.tm[4]?.getD 0)] 37) ∧ SP wb (w2.heap.size + 1) ps [] w3 := ⟨_, rfl, by rw [hw3]; exact SP.start w2 _ ps⟩; have HS := Lib.hid hs3; have HWB := Lib.hid hwb; clear hs3 hwb hw3 HSP2))
  go_loopw [9, 35] (fun av iv wr => ∃ (k a : Nat) (acc : List UInt8), k ≤ ps.length ∧ iv = .int .i64 k ∧ av = .int .i64 (a : Int) ∧ a ≤ k ∧ Hid (acc ++ unlines (spL (kn.drop k) (ps.drop k)) = T) ∧ Hid (a + addN (kn.drop k) (n - k) = N) ∧ Hid (SP wb (w2.heap.size + 1) ps acc wr)) (fun _ iv _ => ps.length - (intOf iv).toNat)
  case atStart => exact ⟨0, 0, [], Nat.zero_le _, rfl, rfl, Nat.le_refl _, HT0, HN0, HS⟩
  case round =>
    clear HS HT0 HN0
    obtain ⟨k, a, acc, hk, rfl, rfl, hak, HAC, HAD, HS⟩ := hrel
    have hacl : acc.length ≤ 13000 := by have := congrArg List.length HAC.out; rw [List.length_append] at this; omega
    by_cases hlt : k < ps.length
    · have hln := HS.out.line hlt
      have HST := Lib.hid (sp_step HAC.out (List.drop_eq_getElem_cons hlt))
      have HAT := Lib.hid (add_step (k := k) HAD.out)
      have hll := HPL.out _ (List.getElem_mem hlt)
      have HXK := Lib.hid (HKN.out k)
      generalize ps[k] = l at hln HST hll
      clear HAC HAD
      have hrl := replL_len l
      have HRP : Hid (∀ W acc, SP wb (w2.heap.size + 1) ps acc W → Calls Tryz.prog 15 #[.string ⟨l.toArray⟩, .string ⟨#[32]⟩, .string ⟨#[32, 9, 32]⟩] W fun e W' => e = .returned (.string ⟨(replL l).toArray⟩) ∧ SP wb (w2.heap.size + 1) ps acc W') := Lib.hid fun W acc h => (strings_Replace1 l (by omega) m W (cell_up (below_next HB.out (below_next (by rw [HWB.out]; exact below_box _ _) (h.e ▸ h.b))) HM.out)).mono fun e W' hh => ⟨hh.1, h.up hh.2⟩
      obtain ⟨X, hX⟩ : ∃ X, X = kn.getD k 0 := ⟨_, rfl⟩
      rw [← hX] at HST HAT HXK
      clear hX
      by_cases hkk : k < ks.length
      · have hcx0 := HX.out _ (List.getElem_mem hkk)
        have HXE : Hid (ks[k].toNat = X) := Lib.hid (by rw [← HXK.out, dif_pos hkk])
        obtain ⟨ba, oa, rfl, hcx⟩ := HA.out.at_ (k := k) (u := .int .u8 ks[k]) (by simp [List.getElem?_eq_getElem hkk])
        replace hcx := cell_up (below_next HB.out (below_next (by rw [HWB.out]; exact below_box _ _) (HS.out.e ▸ HS.out.b))) hcx
        generalize ks[k] = y at hcx hcx0 HXE
        obtain rfl := HXE.out
        have HXB := Lib.hid hcx0
        clear hcx0 HXE
        obtain ⟨v0, hv0⟩ : ∃ v, v = y.toNat.testBit 0 := ⟨_, rfl⟩
        obtain ⟨v1, hv1⟩ : ∃ v, v = y.toNat.testBit 1 := ⟨_, rfl⟩
        obtain ⟨v2, hv2⟩ : ∃ v, v = y.toNat.testBit 2 := ⟨_, rfl⟩
        have HB0 := Lib.hid hv0.symm
        have HB1 := Lib.hid hv1.symm
        have HB2 := Lib.hid hv2.symm
        clear hv0 hv1 hv2 HXK
        obtain ⟨X, hX⟩ : ∃ X, X = y.toNat := ⟨_, rfl⟩
        have hz0 : (bits .and .u8 y 1 == 1) = v0 := by rw [(bits_at HXB.out).1]; exact HB0.out
        have hz1 : (bits .and .u8 y 2 == 2) = v1 := by rw [(bits_at HXB.out).2.1]; exact HB1.out
        have hz2 : (bits .and .u8 y 4 == 4) = v2 := by rw [(bits_at HXB.out).2.2]; exact HB2.out
        rw [← hX] at HB0 HB1 HB2 HST HAT
        clear hX
        cases v0 with
        | false =>
          cases v1 with
          | false =>
            cases v2 with
            | false =>
              have HF : Hid (spcLine X l = l) := Lib.hid (by unfold spcLine; rw [HB1.out, HB2.out]; rfl)
              have E3 := str_app l [10]
              rw [HF.out] at HST
              obtain ⟨L3, hL3⟩ : ∃ L3, L3 = l ++ [10] := ⟨_, rfl⟩
              have l3 : L3.length ≤ 3001 := by rw [hL3]; simp; omega
              rw [← hL3] at E3 HST
              clear hL3 HF hrl
              go_wp2_with (first | (go_at_call 14; (with_reducible refine (HS.out.write _ (by (try simp only [List.length_append, List.length_cons, List.length_nil]); omega)).mono ?_); rintro e w4 ⟨rfl, hs⟩; replace HS := Lib.hid hs; clear hs) | (go_at_call 15; (with_reducible refine (HRP.out _ _ HS.out).mono ?_); rintro e w5 ⟨rfl, hs⟩; replace HS := Lib.hid hs; clear hs))
              go_roundw
              case rel => exact ⟨k + 1, a, acc ++ L3, by omega, by go_num, by go_num, by omega, Lib.hid (by rw [← HST.out, HB0.out]; simp [noiL]), Lib.hid (by rw [← HAT.out, HB0.out]; simp), HS⟩
              case measure => simp [intOf]; omega
            | true =>
              have HF : Hid (spcLine X l = l ++ comL) := Lib.hid (by unfold spcLine; rw [HB1.out, HB2.out]; rfl)
              have E2 := str_app l comL
              obtain ⟨L2, hL2⟩ : ∃ L2, L2 = l ++ comL := ⟨_, rfl⟩
              have l2 : L2.length ≤ 3018 := by rw [hL2]; simp [comL]; omega
              rw [← hL2] at E2 HF
              unfold comL at E2
              clear hL2
              have E3 := str_app L2 [10]
              rw [HF.out] at HST
              obtain ⟨L3, hL3⟩ : ∃ L3, L3 = L2 ++ [10] := ⟨_, rfl⟩
              have l3 : L3.length ≤ 3019 := by rw [hL3]; simp; omega
              rw [← hL3] at E3 HST
              clear hL3 HF hrl
              go_wp2_with (first | (go_at_call 14; (with_reducible refine (HS.out.write _ (by (try simp only [List.length_append, List.length_cons, List.length_nil]); omega)).mono ?_); rintro e w4 ⟨rfl, hs⟩; replace HS := Lib.hid hs; clear hs) | (go_at_call 15; (with_reducible refine (HRP.out _ _ HS.out).mono ?_); rintro e w5 ⟨rfl, hs⟩; replace HS := Lib.hid hs; clear hs))
              go_roundw
              case rel => exact ⟨k + 1, a, acc ++ L3, by omega, by go_num, by go_num, by omega, Lib.hid (by rw [← HST.out, HB0.out]; simp [noiL]), Lib.hid (by rw [← HAT.out, HB0.out]; simp), HS⟩
              case measure => simp [intOf]; omega
          | true =>
            cases v2 with
            | false =>
              have HF : Hid (spcLine X l = [9, 32] ++ replL l) := Lib.hid (by unfold spcLine; rw [HB1.out, HB2.out]; rfl)
              have E1 := str_app [9, 32] (replL l)
              obtain ⟨R, hR⟩ : ∃ R, R = replL l := ⟨_, rfl⟩
              rw [← hR] at E1 HF HRP hrl
              obtain ⟨L1, hL1⟩ : ∃ L1, L1 = [9, 32] ++ R := ⟨_, rfl⟩
              have l1 : L1.length ≤ 9002 := by rw [hL1]; simp; omega
              have l0 : R.length ≤ 9000 := by omega
              rw [← hL1] at E1 HF
              clear hL1 hR
              have E3 := str_app L1 [10]
              rw [HF.out] at HST
              obtain ⟨L3, hL3⟩ : ∃ L3, L3 = L1 ++ [10] := ⟨_, rfl⟩
              have l3 : L3.length ≤ 9003 := by rw [hL3]; simp; omega
              rw [← hL3] at E3 HST
              clear hL3 HF hrl
              go_wp2_with (first | (go_at_call 14; (with_reducible refine (HS.out.write _ (by (try simp only [List.length_append, List.length_cons, List.length_nil]); omega)).mono ?_); rintro e w4 ⟨rfl, hs⟩; replace HS := Lib.hid hs; clear hs) | (go_at_call 15; (with_reducible refine (HRP.out _ _ HS.out).mono ?_); rintro e w5 ⟨rfl, hs⟩; replace HS := Lib.hid hs; clear hs))
              go_roundw
              case rel => exact ⟨k + 1, a, acc ++ L3, by omega, by go_num, by go_num, by omega, Lib.hid (by rw [← HST.out, HB0.out]; simp [noiL]), Lib.hid (by rw [← HAT.out, HB0.out]; simp), HS⟩
              case measure => simp [intOf]; omega
            | true =>
              have HF : Hid (spcLine X l = ([9, 32] ++ replL l) ++ comL) := Lib.hid (by unfold spcLine; rw [HB1.out, HB2.out]; rfl)
              have E1 := str_app [9, 32] (replL l)
              obtain ⟨R, hR⟩ : ∃ R, R = replL l := ⟨_, rfl⟩
              rw [← hR] at E1 HF HRP hrl
              obtain ⟨L1, hL1⟩ : ∃ L1, L1 = [9, 32] ++ R := ⟨_, rfl⟩
              have l1 : L1.length ≤ 9002 := by rw [hL1]; simp; omega
              have l0 : R.length ≤ 9000 := by omega
              rw [← hL1] at E1 HF
              clear hL1 hR
              have E2 := str_app L1 comL
              obtain ⟨L2, hL2⟩ : ∃ L2, L2 = L1 ++ comL := ⟨_, rfl⟩
              have l2 : L2.length ≤ 9020 := by rw [hL2]; simp [comL]; omega
              rw [← hL2] at E2 HF
              unfold comL at E2
              clear hL2
              have E3 := str_app L2 [10]
              rw [HF.out] at HST
              obtain ⟨L3, hL3⟩ : ∃ L3, L3 = L2 ++ [10] := ⟨_, rfl⟩
              have l3 : L3.length ≤ 9021 := by rw [hL3]; simp; omega
              rw [← hL3] at E3 HST
              clear hL3 HF hrl
              go_wp2_with (first | (go_at_call 14; (with_reducible refine (HS.out.write _ (by (try simp only [List.length_append, List.length_cons, List.length_nil]); omega)).mono ?_); rintro e w4 ⟨rfl, hs⟩; replace HS := Lib.hid hs; clear hs) | (go_at_call 15; (with_reducible refine (HRP.out _ _ HS.out).mono ?_); rintro e w5 ⟨rfl, hs⟩; replace HS := Lib.hid hs; clear hs))
              go_roundw
              case rel => exact ⟨k + 1, a, acc ++ L3, by omega, by go_num, by go_num, by omega, Lib.hid (by rw [← HST.out, HB0.out]; simp [noiL]), Lib.hid (by rw [← HAT.out, HB0.out]; simp), HS⟩
              case measure => simp [intOf]; omega
        | true =>
          cases v1 with
          | false =>
            cases v2 with
            | false =>
              by_cases hkn : k < n
              · have HF : Hid (spcLine X l = l) := Lib.hid (by unfold spcLine; rw [HB1.out, HB2.out]; rfl)
                have E3 := str_app l [10]
                rw [HF.out] at HST
                obtain ⟨L3, hL3⟩ : ∃ L3, L3 = l ++ [10] := ⟨_, rfl⟩
                have l3 : L3.length ≤ 3001 := by rw [hL3]; simp; omega
                rw [← hL3] at E3 HST
                clear hL3 HF hrl
                go_wp2_with (first | (go_at_call 14; (with_reducible refine (HS.out.write _ (by (try simp only [List.length_append, List.length_cons, List.length_nil]); omega)).mono ?_); rintro e w4 ⟨rfl, hs⟩; replace HS := Lib.hid hs; clear hs) | (go_at_call 15; (with_reducible refine (HRP.out _ _ HS.out).mono ?_); rintro e w5 ⟨rfl, hs⟩; replace HS := Lib.hid hs; clear hs))
                go_roundw
                case rel => exact ⟨k + 1, a + 1, acc ++ [32, 9, 35, 32, 102, 114, 111, 109, 32, 99, 111, 115, 116, 32, 61, 32, 40, 10] ++ L3, by omega, by go_num, by go_num, by omega, Lib.hid (by rw [← HST.out, HB0.out]; simp [noiL]), Lib.hid (by rw [← HAT.out, HB0.out]; simp [hkn]), HS⟩
                case measure => simp [intOf]; omega
              · have HF : Hid (spcLine X l = l) := Lib.hid (by unfold spcLine; rw [HB1.out, HB2.out]; rfl)
                have E3 := str_app l [10]
                rw [HF.out] at HST
                obtain ⟨L3, hL3⟩ : ∃ L3, L3 = l ++ [10] := ⟨_, rfl⟩
                have l3 : L3.length ≤ 3001 := by rw [hL3]; simp; omega
                rw [← hL3] at E3 HST
                clear hL3 HF hrl
                go_wp2_with (first | (go_at_call 14; (with_reducible refine (HS.out.write _ (by (try simp only [List.length_append, List.length_cons, List.length_nil]); omega)).mono ?_); rintro e w4 ⟨rfl, hs⟩; replace HS := Lib.hid hs; clear hs) | (go_at_call 15; (with_reducible refine (HRP.out _ _ HS.out).mono ?_); rintro e w5 ⟨rfl, hs⟩; replace HS := Lib.hid hs; clear hs))
                go_roundw
                case rel => exact ⟨k + 1, a, acc ++ [32, 9, 35, 32, 102, 114, 111, 109, 32, 99, 111, 115, 116, 32, 61, 32, 40, 10] ++ L3, by omega, by go_num, by go_num, by omega, Lib.hid (by rw [← HST.out, HB0.out]; simp [noiL]), Lib.hid (by rw [← HAT.out, HB0.out]; simp [hkn]), HS⟩
                case measure => simp [intOf]; omega
            | true =>
              by_cases hkn : k < n
              · have HF : Hid (spcLine X l = l ++ comL) := Lib.hid (by unfold spcLine; rw [HB1.out, HB2.out]; rfl)
                have E2 := str_app l comL
                obtain ⟨L2, hL2⟩ : ∃ L2, L2 = l ++ comL := ⟨_, rfl⟩
                have l2 : L2.length ≤ 3018 := by rw [hL2]; simp [comL]; omega
                rw [← hL2] at E2 HF
                unfold comL at E2
                clear hL2
                have E3 := str_app L2 [10]
                rw [HF.out] at HST
                obtain ⟨L3, hL3⟩ : ∃ L3, L3 = L2 ++ [10] := ⟨_, rfl⟩
                have l3 : L3.length ≤ 3019 := by rw [hL3]; simp; omega
                rw [← hL3] at E3 HST
                clear hL3 HF hrl
                go_wp2_with (first | (go_at_call 14; (with_reducible refine (HS.out.write _ (by (try simp only [List.length_append, List.length_cons, List.length_nil]); omega)).mono ?_); rintro e w4 ⟨rfl, hs⟩; replace HS := Lib.hid hs; clear hs) | (go_at_call 15; (with_reducible refine (HRP.out _ _ HS.out).mono ?_); rintro e w5 ⟨rfl, hs⟩; replace HS := Lib.hid hs; clear hs))
                go_roundw
                case rel => exact ⟨k + 1, a + 1, acc ++ [32, 9, 35, 32, 102, 114, 111, 109, 32, 99, 111, 115, 116, 32, 61, 32, 40, 10] ++ L3, by omega, by go_num, by go_num, by omega, Lib.hid (by rw [← HST.out, HB0.out]; simp [noiL]), Lib.hid (by rw [← HAT.out, HB0.out]; simp [hkn]), HS⟩
                case measure => simp [intOf]; omega
              · have HF : Hid (spcLine X l = l ++ comL) := Lib.hid (by unfold spcLine; rw [HB1.out, HB2.out]; rfl)
                have E2 := str_app l comL
                obtain ⟨L2, hL2⟩ : ∃ L2, L2 = l ++ comL := ⟨_, rfl⟩
                have l2 : L2.length ≤ 3018 := by rw [hL2]; simp [comL]; omega
                rw [← hL2] at E2 HF
                unfold comL at E2
                clear hL2
                have E3 := str_app L2 [10]
                rw [HF.out] at HST
                obtain ⟨L3, hL3⟩ : ∃ L3, L3 = L2 ++ [10] := ⟨_, rfl⟩
                have l3 : L3.length ≤ 3019 := by rw [hL3]; simp; omega
                rw [← hL3] at E3 HST
                clear hL3 HF hrl
                go_wp2_with (first | (go_at_call 14; (with_reducible refine (HS.out.write _ (by (try simp only [List.length_append, List.length_cons, List.length_nil]); omega)).mono ?_); rintro e w4 ⟨rfl, hs⟩; replace HS := Lib.hid hs; clear hs) | (go_at_call 15; (with_reducible refine (HRP.out _ _ HS.out).mono ?_); rintro e w5 ⟨rfl, hs⟩; replace HS := Lib.hid hs; clear hs))
                go_roundw
                case rel => exact ⟨k + 1, a, acc ++ [32, 9, 35, 32, 102, 114, 111, 109, 32, 99, 111, 115, 116, 32, 61, 32, 40, 10] ++ L3, by omega, by go_num, by go_num, by omega, Lib.hid (by rw [← HST.out, HB0.out]; simp [noiL]), Lib.hid (by rw [← HAT.out, HB0.out]; simp [hkn]), HS⟩
                case measure => simp [intOf]; omega
          | true =>
            cases v2 with
            | false =>
              by_cases hkn : k < n
              · have HF : Hid (spcLine X l = [9, 32] ++ replL l) := Lib.hid (by unfold spcLine; rw [HB1.out, HB2.out]; rfl)
                have E1 := str_app [9, 32] (replL l)
                obtain ⟨R, hR⟩ : ∃ R, R = replL l := ⟨_, rfl⟩
                rw [← hR] at E1 HF HRP hrl
                obtain ⟨L1, hL1⟩ : ∃ L1, L1 = [9, 32] ++ R := ⟨_, rfl⟩
                have l1 : L1.length ≤ 9002 := by rw [hL1]; simp; omega
                have l0 : R.length ≤ 9000 := by omega
                rw [← hL1] at E1 HF
                clear hL1 hR
                have E3 := str_app L1 [10]
                rw [HF.out] at HST
                obtain ⟨L3, hL3⟩ : ∃ L3, L3 = L1 ++ [10] := ⟨_, rfl⟩
                have l3 : L3.length ≤ 9003 := by rw [hL3]; simp; omega
                rw [← hL3] at E3 HST
                clear hL3 HF hrl
                go_wp2_with (first | (go_at_call 14; (with_reducible refine (HS.out.write _ (by (try simp only [List.length_append, List.length_cons, List.length_nil]); omega)).mono ?_); rintro e w4 ⟨rfl, hs⟩; replace HS := Lib.hid hs; clear hs) | (go_at_call 15; (with_reducible refine (HRP.out _ _ HS.out).mono ?_); rintro e w5 ⟨rfl, hs⟩; replace HS := Lib.hid hs; clear hs))
                go_roundw
                case rel => exact ⟨k + 1, a + 1, acc ++ [32, 9, 35, 32, 102, 114, 111, 109, 32, 99, 111, 115, 116, 32, 61, 32, 40, 10] ++ L3, by omega, by go_num, by go_num, by omega, Lib.hid (by rw [← HST.out, HB0.out]; simp [noiL]), Lib.hid (by rw [← HAT.out, HB0.out]; simp [hkn]), HS⟩
                case measure => simp [intOf]; omega
              · have HF : Hid (spcLine X l = [9, 32] ++ replL l) := Lib.hid (by unfold spcLine; rw [HB1.out, HB2.out]; rfl)
                have E1 := str_app [9, 32] (replL l)
                obtain ⟨R, hR⟩ : ∃ R, R = replL l := ⟨_, rfl⟩
                rw [← hR] at E1 HF HRP hrl
                obtain ⟨L1, hL1⟩ : ∃ L1, L1 = [9, 32] ++ R := ⟨_, rfl⟩
                have l1 : L1.length ≤ 9002 := by rw [hL1]; simp; omega
                have l0 : R.length ≤ 9000 := by omega
                rw [← hL1] at E1 HF
                clear hL1 hR
                have E3 := str_app L1 [10]
                rw [HF.out] at HST
                obtain ⟨L3, hL3⟩ : ∃ L3, L3 = L1 ++ [10] := ⟨_, rfl⟩
                have l3 : L3.length ≤ 9003 := by rw [hL3]; simp; omega
                rw [← hL3] at E3 HST
                clear hL3 HF hrl
                go_wp2_with (first | (go_at_call 14; (with_reducible refine (HS.out.write _ (by (try simp only [List.length_append, List.length_cons, List.length_nil]); omega)).mono ?_); rintro e w4 ⟨rfl, hs⟩; replace HS := Lib.hid hs; clear hs) | (go_at_call 15; (with_reducible refine (HRP.out _ _ HS.out).mono ?_); rintro e w5 ⟨rfl, hs⟩; replace HS := Lib.hid hs; clear hs))
                go_roundw
                case rel => exact ⟨k + 1, a, acc ++ [32, 9, 35, 32, 102, 114, 111, 109, 32, 99, 111, 115, 116, 32, 61, 32, 40, 10] ++ L3, by omega, by go_num, by go_num, by omega, Lib.hid (by rw [← HST.out, HB0.out]; simp [noiL]), Lib.hid (by rw [← HAT.out, HB0.out]; simp [hkn]), HS⟩
                case measure => simp [intOf]; omega
            | true =>
              by_cases hkn : k < n
              · have HF : Hid (spcLine X l = ([9, 32] ++ replL l) ++ comL) := Lib.hid (by unfold spcLine; rw [HB1.out, HB2.out]; rfl)
                have E1 := str_app [9, 32] (replL l)
                obtain ⟨R, hR⟩ : ∃ R, R = replL l := ⟨_, rfl⟩
                rw [← hR] at E1 HF HRP hrl
                obtain ⟨L1, hL1⟩ : ∃ L1, L1 = [9, 32] ++ R := ⟨_, rfl⟩
                have l1 : L1.length ≤ 9002 := by rw [hL1]; simp; omega
                have l0 : R.length ≤ 9000 := by omega
                rw [← hL1] at E1 HF
                clear hL1 hR
                have E2 := str_app L1 comL
                obtain ⟨L2, hL2⟩ : ∃ L2, L2 = L1 ++ comL := ⟨_, rfl⟩
                have l2 : L2.length ≤ 9020 := by rw [hL2]; simp [comL]; omega
                rw [← hL2] at E2 HF
                unfold comL at E2
                clear hL2
                have E3 := str_app L2 [10]
                rw [HF.out] at HST
                obtain ⟨L3, hL3⟩ : ∃ L3, L3 = L2 ++ [10] := ⟨_, rfl⟩
                have l3 : L3.length ≤ 9021 := by rw [hL3]; simp; omega
                rw [← hL3] at E3 HST
                clear hL3 HF hrl
                go_wp2_with (first | (go_at_call 14; (with_reducible refine (HS.out.write _ (by (try simp only [List.length_append, List.length_cons, List.length_nil]); omega)).mono ?_); rintro e w4 ⟨rfl, hs⟩; replace HS := Lib.hid hs; clear hs) | (go_at_call 15; (with_reducible refine (HRP.out _ _ HS.out).mono ?_); rintro e w5 ⟨rfl, hs⟩; replace HS := Lib.hid hs; clear hs))
                go_roundw
                case rel => exact ⟨k + 1, a + 1, acc ++ [32, 9, 35, 32, 102, 114, 111, 109, 32, 99, 111, 115, 116, 32, 61, 32, 40, 10] ++ L3, by omega, by go_num, by go_num, by omega, Lib.hid (by rw [← HST.out, HB0.out]; simp [noiL]), Lib.hid (by rw [← HAT.out, HB0.out]; simp [hkn]), HS⟩
                case measure => simp [intOf]; omega
              · have HF : Hid (spcLine X l = ([9, 32] ++ replL l) ++ comL) := Lib.hid (by unfold spcLine; rw [HB1.out, HB2.out]; rfl)
                have E1 := str_app [9, 32] (replL l)
                obtain ⟨R, hR⟩ : ∃ R, R = replL l := ⟨_, rfl⟩
                rw [← hR] at E1 HF HRP hrl
                obtain ⟨L1, hL1⟩ : ∃ L1, L1 = [9, 32] ++ R := ⟨_, rfl⟩
                have l1 : L1.length ≤ 9002 := by rw [hL1]; simp; omega
                have l0 : R.length ≤ 9000 := by omega
                rw [← hL1] at E1 HF
                clear hL1 hR
                have E2 := str_app L1 comL
                obtain ⟨L2, hL2⟩ : ∃ L2, L2 = L1 ++ comL := ⟨_, rfl⟩
                have l2 : L2.length ≤ 9020 := by rw [hL2]; simp [comL]; omega
                rw [← hL2] at E2 HF
                unfold comL at E2
                clear hL2
                have E3 := str_app L2 [10]
                rw [HF.out] at HST
                obtain ⟨L3, hL3⟩ : ∃ L3, L3 = L2 ++ [10] := ⟨_, rfl⟩
                have l3 : L3.length ≤ 9021 := by rw [hL3]; simp; omega
                rw [← hL3] at E3 HST
                clear hL3 HF hrl
                go_wp2_with (first | (go_at_call 14; (with_reducible refine (HS.out.write _ (by (try simp only [List.length_append, List.length_cons, List.length_nil]); omega)).mono ?_); rintro e w4 ⟨rfl, hs⟩; replace HS := Lib.hid hs; clear hs) | (go_at_call 15; (with_reducible refine (HRP.out _ _ HS.out).mono ?_); rintro e w5 ⟨rfl, hs⟩; replace HS := Lib.hid hs; clear hs))
                go_roundw
                case rel => exact ⟨k + 1, a, acc ++ [32, 9, 35, 32, 102, 114, 111, 109, 32, 99, 111, 115, 116, 32, 61, 32, 40, 10] ++ L3, by omega, by go_num, by go_num, by omega, Lib.hid (by rw [← HST.out, HB0.out]; simp [noiL]), Lib.hid (by rw [← HAT.out, HB0.out]; simp [hkn]), HS⟩
                case measure => simp [intOf]; omega
      · obtain rfl : 0 = X := by rw [← HXK.out, dif_neg hkk]
        have HXB : Hid ((0 : Int) ≤ 0 ∧ (0 : Int) ≤ 255) := Lib.hid ⟨by decide, by decide⟩
        have HB0 : Hid ((0 : Nat).testBit 0 = false) := Lib.hid (by decide)
        have HB1 : Hid ((0 : Nat).testBit 1 = false) := Lib.hid (by decide)
        have HB2 : Hid ((0 : Nat).testBit 2 = false) := Lib.hid (by decide)
        have hz0 : (bits .and .u8 0 1 == 1) = false := by rw [(bits_at HXB.out).1]; exact HB0.out
        have hz1 : (bits .and .u8 0 2 == 2) = false := by rw [(bits_at HXB.out).2.1]; exact HB1.out
        have hz2 : (bits .and .u8 0 4 == 4) = false := by rw [(bits_at HXB.out).2.2]; exact HB2.out
        have HF : Hid (spcLine 0 l = l) := Lib.hid (by unfold spcLine; rw [HB1.out, HB2.out]; rfl)
        have E3 := str_app l [10]
        rw [HF.out] at HST
        obtain ⟨L3, hL3⟩ : ∃ L3, L3 = l ++ [10] := ⟨_, rfl⟩
        have l3 : L3.length ≤ 3001 := by rw [hL3]; simp; omega
        rw [← hL3] at E3 HST
        clear hL3 HF hrl
        go_wp2_with (first | (go_at_call 14; (with_reducible refine (HS.out.write _ (by (try simp only [List.length_append, List.length_cons, List.length_nil]); omega)).mono ?_); rintro e w4 ⟨rfl, hs⟩; replace HS := Lib.hid hs; clear hs) | (go_at_call 15; (with_reducible refine (HRP.out _ _ HS.out).mono ?_); rintro e w5 ⟨rfl, hs⟩; replace HS := Lib.hid hs; clear hs))
        go_roundw
        case rel => exact ⟨k + 1, a, acc ++ L3, by omega, by go_num, by go_num, by omega, Lib.hid (by rw [← HST.out, HB0.out]; simp [noiL]), Lib.hid (by rw [← HAT.out, HB0.out]; simp), HS⟩
        case measure => simp [intOf]; omega
    · obtain rfl : k = ps.length := by omega
      rw [List.drop_length] at HAC
      obtain rfl : acc = T := by have := HAC.out; simpa [spL, unlines] using this
      have HAN : Hid (n ≤ ps.length → a = N) := Lib.hid fun h => by have := HAD.out; rw [show n - ps.length = 0 by omega] at this; simpa [addN] using this
      have hNl2 := HAN.out hnl
      obtain ⟨M, hM⟩ : ∃ M, M = n + N := ⟨_, rfl⟩
      rw [← hM] at HC2
      rw [← hNl2] at hM HN1
      clear hNl2 HAN HAD HAC hlt
      by_cases hn0 : n = 0
      · have e1 : ((n : Int) == 0) = true := by rw [hn0]; rfl
        have e2 : ((M : Int) == 0) = true := by rw [hM, hn0, HN1.out hn0]; rfl
        clear hM hn0 HN1
        go_wp2_with (first | (go_at_call 16; (with_reducible refine HS.out.text.mono ?_); rintro e w4 ⟨rfl, hb4⟩; replace HB := Lib.hid (below_next (below_next HB.out (by rw [HWB.out]; exact below_box _ _)) hb4); have HB4 := Lib.hid hb4; clear hb4) | (go_at_call 11; refine (HC2.out _ (HE.out.up HB.out) (tab_up HT.out HB.out HB.out.size)).mono ?_; rintro e w5 ⟨⟨r2, rfl, hcat2, _⟩, hb5⟩; have hb45 := below_next HB4.out hb5; have hx5 : w5.heap[w2.heap.size]? = some (.cells #[.slice r.aN c.names.length r.cN, .slice r.aL c.lnames.length r.cL, .int .i64 nn, .slice r.aO c.ov.length r.cO, .slice r.aK c.links.length r.cK, .slice r.aP c.pfx.length r.cP, .slice r.aQ c.pols.length r.cQ, .slice r.aD c.dems.length r.cD, .int .i64 (c.tm[0]?.getD 0), .int .i64 (c.tm[1]?.getD 0), .int .i64 (c.tm[2]?.getD 0), .int .i64 (c.tm[3]?.getD 0), .int .i64 (c.tm[4]?.getD 0)] 37 (0, 0)) := (hb45.block _ (by rw [HWB.out]; simp)).trans (by rw [HWB.out]; exact heap_alloc_new _ _); have HCA5 := Lib.hid ((HCA.out.below (by rw [HWB.out]; exact below_box _ _)).below hb45); have HCB := Lib.hid hcat2; replace HB := Lib.hid (below_next HB.out hb5); have u0 : w5.cell? ⟨w2.heap.size, 0, none⟩ = some (.slice r.aN c.names.length r.cN) := Lib.cell_of_heap hx5 0; have u1 : w5.cell? ⟨w2.heap.size, 1, none⟩ = some (.slice r.aL c.lnames.length r.cL) := Lib.cell_of_heap hx5 1; have u2 : w5.cell? ⟨w2.heap.size, 2, none⟩ = some (.int .i64 nn) := Lib.cell_of_heap hx5 2; have u3 : w5.cell? ⟨w2.heap.size, 3, none⟩ = some (.slice r.aO c.ov.length r.cO) := Lib.cell_of_heap hx5 3; have u4 : w5.cell? ⟨w2.heap.size, 4, none⟩ = some (.slice r.aK c.links.length r.cK) := Lib.cell_of_heap hx5 4; have u5 : w5.cell? ⟨w2.heap.size, 5, none⟩ = some (.slice r.aP c.pfx.length r.cP) := Lib.cell_of_heap hx5 5; have u6 : w5.cell? ⟨w2.heap.size, 6, none⟩ = some (.slice r.aQ c.pols.length r.cQ) := Lib.cell_of_heap hx5 6; have u7 : w5.cell? ⟨w2.heap.size, 7, none⟩ = some (.slice r.aD c.dems.length r.cD) := Lib.cell_of_heap hx5 7; have u8 : w5.cell? ⟨w2.heap.size, 8, none⟩ = some (.int .i64 (c.tm[0]?.getD 0)) := Lib.cell_of_heap hx5 8; have u9 : w5.cell? ⟨w2.heap.size, 9, none⟩ = some (.int .i64 (c.tm[1]?.getD 0)) := Lib.cell_of_heap hx5 9; have u10 : w5.cell? ⟨w2.heap.size, 10, none⟩ = some (.int .i64 (c.tm[2]?.getD 0)) := Lib.cell_of_heap hx5 10; have u11 : w5.cell? ⟨w2.heap.size, 11, none⟩ = some (.int .i64 (c.tm[3]?.getD 0)) := Lib.cell_of_heap hx5 11; have u12 : w5.cell? ⟨w2.heap.size, 12, none⟩ = some (.int .i64 (c.tm[4]?.getD 0)) := Lib.cell_of_heap hx5 12; have hlt5 : w2.heap.size < w5.heap.size := lt_of_heap hx5; have hne5 : w2.heap.size ≠ w5.heap.size := Nat.ne_of_lt hlt5; have hne6 : w5.heap.size ≠ w2.heap.size := Nat.ne_of_gt hlt5; clear hcat2 hb5 hb45 hx5 HC2 HCA; unfold cfCells) | (go_at_call 17; (with_reducible refine (HSM.out _ _ _ HSL.out (HCA5.out.below (below_box _ _)) (HCB.out.below (below_box _ _))).mono ?_); rintro e w6 ⟨rfl, hb6⟩; have HB6 := Lib.hid (below_next (below_next HB.out (below_box _ _)) hb6); clear hb6))
        go_ret
        exact ⟨by simp, HB6.out⟩
      · have e1 : ((n : Int) == 0) = false := by rw [beq_eq_false_iff_ne]; omega
        have e2 : ((M : Int) == (n : Int) + (a : Int)) = true := by rw [beq_iff_eq]; omega
        clear hM hn0 HN1
        go_wp2_with (first | (go_at_call 16; (with_reducible refine HS.out.text.mono ?_); rintro e w4 ⟨rfl, hb4⟩; replace HB := Lib.hid (below_next (below_next HB.out (by rw [HWB.out]; exact below_box _ _)) hb4); have HB4 := Lib.hid hb4; clear hb4) | (go_at_call 11; refine (HC2.out _ (HE.out.up HB.out) (tab_up HT.out HB.out HB.out.size)).mono ?_; rintro e w5 ⟨⟨r2, rfl, hcat2, _⟩, hb5⟩; have hb45 := below_next HB4.out hb5; have hx5 : w5.heap[w2.heap.size]? = some (.cells #[.slice r.aN c.names.length r.cN, .slice r.aL c.lnames.length r.cL, .int .i64 nn, .slice r.aO c.ov.length r.cO, .slice r.aK c.links.length r.cK, .slice r.aP c.pfx.length r.cP, .slice r.aQ c.pols.length r.cQ, .slice r.aD c.dems.length r.cD, .int .i64 (c.tm[0]?.getD 0), .int .i64 (c.tm[1]?.getD 0), .int .i64 (c.tm[2]?.getD 0), .int .i64 (c.tm[3]?.getD 0), .int .i64 (c.tm[4]?.getD 0)] 37 (0, 0)) := (hb45.block _ (by rw [HWB.out]; simp)).trans (by rw [HWB.out]; exact heap_alloc_new _ _); have HCA5 := Lib.hid ((HCA.out.below (by rw [HWB.out]; exact below_box _ _)).below hb45); have HCB := Lib.hid hcat2; replace HB := Lib.hid (below_next HB.out hb5); have u0 : w5.cell? ⟨w2.heap.size, 0, none⟩ = some (.slice r.aN c.names.length r.cN) := Lib.cell_of_heap hx5 0; have u1 : w5.cell? ⟨w2.heap.size, 1, none⟩ = some (.slice r.aL c.lnames.length r.cL) := Lib.cell_of_heap hx5 1; have u2 : w5.cell? ⟨w2.heap.size, 2, none⟩ = some (.int .i64 nn) := Lib.cell_of_heap hx5 2; have u3 : w5.cell? ⟨w2.heap.size, 3, none⟩ = some (.slice r.aO c.ov.length r.cO) := Lib.cell_of_heap hx5 3; have u4 : w5.cell? ⟨w2.heap.size, 4, none⟩ = some (.slice r.aK c.links.length r.cK) := Lib.cell_of_heap hx5 4; have u5 : w5.cell? ⟨w2.heap.size, 5, none⟩ = some (.slice r.aP c.pfx.length r.cP) := Lib.cell_of_heap hx5 5; have u6 : w5.cell? ⟨w2.heap.size, 6, none⟩ = some (.slice r.aQ c.pols.length r.cQ) := Lib.cell_of_heap hx5 6; have u7 : w5.cell? ⟨w2.heap.size, 7, none⟩ = some (.slice r.aD c.dems.length r.cD) := Lib.cell_of_heap hx5 7; have u8 : w5.cell? ⟨w2.heap.size, 8, none⟩ = some (.int .i64 (c.tm[0]?.getD 0)) := Lib.cell_of_heap hx5 8; have u9 : w5.cell? ⟨w2.heap.size, 9, none⟩ = some (.int .i64 (c.tm[1]?.getD 0)) := Lib.cell_of_heap hx5 9; have u10 : w5.cell? ⟨w2.heap.size, 10, none⟩ = some (.int .i64 (c.tm[2]?.getD 0)) := Lib.cell_of_heap hx5 10; have u11 : w5.cell? ⟨w2.heap.size, 11, none⟩ = some (.int .i64 (c.tm[3]?.getD 0)) := Lib.cell_of_heap hx5 11; have u12 : w5.cell? ⟨w2.heap.size, 12, none⟩ = some (.int .i64 (c.tm[4]?.getD 0)) := Lib.cell_of_heap hx5 12; have hlt5 : w2.heap.size < w5.heap.size := lt_of_heap hx5; have hne5 : w2.heap.size ≠ w5.heap.size := Nat.ne_of_lt hlt5; have hne6 : w5.heap.size ≠ w2.heap.size := Nat.ne_of_gt hlt5; clear hcat2 hb5 hb45 hx5 HC2 HCA; unfold cfCells) | (go_at_call 17; (with_reducible refine (HSM.out _ _ _ HSL.out (HCA5.out.below (below_box _ _)) (HCB.out.below (below_box _ _))).mono ?_); rintro e w6 ⟨rfl, hb6⟩; have HB6 := Lib.hid (below_next (below_next HB.out (below_box _ _)) hb6); clear hb6))
        go_ret
        exact ⟨by simp, HB6.out⟩

theorem own : ownKnob Tryz.prog.godebug = none := by kernel_rfl
theorem laidOut : laidOutB Tryz.prog = true := by kernel_rfl
theorem gTab : Tryz.prog.globalNamed "internal/strconv.uint64pow10" = some 3 := by kernel_rfl
theorem gTabType : (Tryz.prog.globals[(3 : Nat)]?).map (·.type) = some 176 := by kernel_rfl
set_option maxRecDepth 100000 in
theorem table {W : World} (h : laidMetH Tryz.prog Rows.configSpacesRow.laid W) : Lib.TabIs Tryz.prog W "internal/strconv.uint64pow10" .u64 Lib.pow10Tab :=
  by
  rw [Go.MakeChecks.laidMetH_plain _ _ _ (by kernel_rfl)] at h
  have hm : ("internal/strconv.uint64pow10", Rows.laid_internal_strconv_uint64pow10) ∈ Rows.configSpacesRow.laid := by simp [Rows.configSpacesRow]
  rw [show (Rows.laid_internal_strconv_uint64pow10 : DataW Unit) = Lib.tabData .u64 Lib.pow10Tab by kernel_rfl] at hm
  obtain ⟨g', t', cs, fuel, p, hg', ht', hvar, hd⟩ := Lib.laidMet.reads h hm
  obtain rfl := Option.some.inj (gTab.symm.trans hg')
  obtain rfl := Option.some.inj (gTabType.symm.trans ht')
  unfold Lib.TabIs
  rw [hvar, ← Lib.cells_of_tab Tryz.underlying176 Tryz.underlying67 (by kernel_rfl) (by kernel_rfl) hd]

set_option maxRecDepth 100000 in
theorem errs {W : World} (h : laidMetH Tryz.prog Rows.configSpacesRow.laid W) : Errs W := by
  rw [Go.MakeChecks.laidMetH_plain _ _ _ (by kernel_rfl)] at h
  exact errs_of (laidMet.tail (laidMet.tail (laidMet.tail (laidMet.tail h))))

set_option maxHeartbeats 1000000 in
set_option maxRecDepth 100000 in
/-- For every argument and every world that holds the tables. -/
theorem contract (H : Type) (enc : TypeId × Value → H) (W : World) (base : Nat) (args : Array Value) (ds gs : List (DataW H)) (before : List MemPlace)
    (hval : ∀ (j : Nat) t v, Tryz.f5.params[j]? = some t → args[j]? = some v → Value.okWide Tryz.prog W .any base t v)
    (hW : DataW.Whole enc Tryz.prog Tryz.f5.params.toList Rows.configSpacesSpec.vars false W args.toList ds gs before) (hL : laidMetH Tryz.prog Rows.configSpacesRow.laid W) (hSh : W.ShapedOpen Tryz.prog) :
    Calls Tryz.prog 5 args W fun e W' => ∃ v, e = .returned v ∧ Rows.configSpacesSpec.post enc Tryz.prog Tryz.f5 false true false false W args v W' := by
  have hW' := hW
  obtain ⟨p, q, hAll, hV, rfl, hfz, hnd⟩ := hW
  have hA : DataW.TrodAll enc Tryz.prog W 0 (fun _ => true) true Tryz.f5.params.toList args.toList ds p := hAll
  rw [Tryz.params5] at hA hval
  obtain ⟨v0, vs0, d0, ds0, p0, q0, hargs, rfl, rfl, h0, r0⟩ := trodAll_cons hA
  obtain ⟨v1, vs1, d1, ds1, p1, q1, rfl, rfl, rfl, h1, r1⟩ := trodAll_cons r0
  obtain ⟨rfl, rfl, rfl⟩ := trodAll_nil r1
  obtain rfl : args = #[v0, v1] := by cases args; simp_all
  obtain ⟨rfl, rfl⟩ := trodVars_none hV
  have k0 := h0
  have lt0 : ∀ x ∈ p0, x.block < W.heap.size := by obtain ⟨m, hm⟩ := k0; exact DataW.trod_lt m _ _ _ hm
  obtain ⟨l0, rfl, hx0⟩ := open_str (hval 0 9 v0 rfl rfl) h0
  have k1 := h1
  have lt1 : ∀ x ∈ p1, x.block < W.heap.size := by obtain ⟨m, hm⟩ := k1; exact DataW.trod_lt m _ _ _ hm
  obtain ⟨A1, c1, xs1, rfl, hlc1, hcm1, hx1, hA1⟩ := open_u8s (hval 1 45 v1 rfl rfl) h1
  clear hAll
  refine (walk l0 A1 c1 xs1 W hx0 hlc1 hcm1 hx1 hA1 (Lib.tabBelow_of_tabIs (table hL)) (errs hL) (Tryz.laysM155.s1_3 W hSh)).mono fun e W' ⟨he, bel⟩ => ?_
  subst he
  exact ⟨_, rfl, _, _, _, [], _, [], hW', trodAll_mk1 (shut_bool Tryz.underlying4 _), (trodAll_cons_mk (Below.trod laidOut (by kernel_rfl) (of_decide_eq_true (by kernel_rfl)) k0 bel lt0) (trodAll_cons_mk (Below.trod laidOut (by kernel_rfl) (of_decide_eq_true (by kernel_rfl)) k1 bel lt1) trodAll_mk0)), rfl, bel.frame _, fun h => by cases h⟩

/-- The cells of a laid table. -/
def litCells : DataW Unit → List Value
  | .lit (.int k n) => [Value.int k n]
  | _ => []
def aggCells : DataW Unit → List Value
  | .agg ds => ds.flatMap litCells
  | d => litCells d
def tabCells : DataW Unit → Array Value
  | .agg ds => (ds.flatMap aggCells).toArray
  | _ => #[]
def layTab (c : Array Value) : Obj → Obj
  | .cells _ t frozen => .cells c t frozen
  | o => o
/-- A world for the witness: the settled one, the tables holding what their initialisers lay. -/
noncomputable def low : Nat := (World.holding Tryz.prog default ⟨#[], #[], []⟩).heap.size
noncomputable def heldWorld (os : Os) : World := World.holding Tryz.prog os ⟨#[.cells #[.string ⟨#[118, 97, 108, 117, 101, 32, 111, 117, 116, 32, 111, 102, 32, 114, 97, 110, 103, 101]⟩] 198, .cells #[.string ⟨#[105, 110, 118, 97, 108, 105, 100, 32, 115, 121, 110, 116, 97, 120]⟩] 198], #[], []⟩
noncomputable def laidWorld (os : Os) : World :=
  { heldWorld os with heap := ((((((((heldWorld os).heap.modify 6 (layTab (tabCells Rows.laid_math_bits_deBruijn32tab))).modify 7 (layTab (tabCells Rows.laid_math_bits_deBruijn64tab))).modify 3 (layTab (tabCells Rows.laid_internal_strconv_uint64pow10))).modify 2 (layTab (tabCells Rows.laid_unicode_utf8_acceptRanges))).modify 5 (layTab #[.iface 196 (.pointer (some ⟨low, 0, none⟩))])).modify 4 (layTab #[.iface 196 (.pointer (some ⟨low + 1, 0, none⟩))])).modify 1 (layTab (tabCells Rows.laid_unicode_utf8_first))) }
set_option maxRecDepth 100000 in
theorem laid_met (os : Os) : laidMet Tryz.prog Rows.configSpacesRow.laid ((laidWorld os).forCall (fun _ _ => 0) ⟨#[], #[.string ⟨#[]⟩, .slice none 0 0], []⟩).memory :=
  laidMet_of_run' 8 (by kernel_rfl) (by kernel_rfl)
set_option maxRecDepth 100000 in
theorem reads (os : Os) {H : Type} (enc : TypeId × Value → H) : ∃ places, DataW.whole enc Tryz.prog ((laidWorld os).forCall (fun _ _ => 0) ⟨#[], #[.string ⟨#[]⟩, .slice none 0 0], []⟩).memory Tryz.f5.params.toList Rows.configSpacesSpec.vars false (#[.string ⟨#[]⟩, .slice none 0 0] : Array Value).toList 8 = some ([.lit (.string []), .nil], [], places) :=
  ⟨[], by kernel_rfl⟩

set_option maxRecDepth 100000 in
theorem lifted (os : Os) (started : os.Started) (H : Type) (enc : TypeId × Value → H) (F : Stop.Interp) :
    ReturnsInHanded {} Tryz.checked os 5 .any ((OpenSpec.ofChange Rows.configSpacesSpec).preRow enc Tryz.prog Tryz.f5 Rows.configSpacesRow.domain false Rows.configSpacesRow.laid) (((OpenSpec.ofChange Rows.configSpacesSpec).at F).post enc Tryz.prog Tryz.f5 false true false false) := by
  obtain ⟨places, hx⟩ := reads os enc
  refine returnsInHanded_of_row (C := Tryz.checked) (s := OpenSpec.ofChange Rows.configSpacesSpec) own started (by kernel_rfl) Tryz.func5
    (witness_row_at (enc := enc) (C := Tryz.checked) false (laidWorld os) #[.string ⟨#[]⟩, .slice none 0 0] rfl (by kernel_rfl) (by kernel_rfl) (by kernel_rfl)
      (OpenSpec.preRow_of_cond 8 hx (by kernel_rfl) (fun k hk => by cases hk) (by kernel_rfl) (laid_met os))) ?_
  intro W base args ds gs before hval hW _ _ _ hL hSh _
  exact contract H enc W base args ds gs before hval hW hL hSh

set_option maxRecDepth 100000 in
theorem said : Rows.ConfigSpacesSaid :=
  OpenClaim.holds_of_cond 5 Tryz.f5 rfl rfl rfl rfl rfl rfl rfl ⟨rfl, rfl, rfl, rfl, rfl⟩ rfl rfl rfl rfl rfl (by kernel_rfl) Tryz.func5 (by kernel_rfl)
    (of_decide_eq_true (by kernel_rfl)) (by unfold Func.isWrapper; first | (rw [if_pos (by decide +kernel)]; kernel_rfl) | (rw [if_neg (by decide +kernel)]; exact ⟨rfl, rfl⟩))
    (fun os started H enc _ F => by rw [OpenClaim.pre_eq_preRow]; exact lifted os started H enc F)

set_option maxRecDepth 100000 in
theorem plain (f : FuncId) (fn : Func) (hf : Tryz.pinned.checked.prog.funcNamed "waypoint/waypointlaw15.ConfigSpaces" = some f) (hfn : Tryz.pinned.checked.prog.funcs[f]? = some fn) :
    true = Tryz.pinned.checked.prog.looks [] ∧ ∀ (j : Nat) t, fn.params[j]? = some t → Tryz.pinned.checked.prog.wantsStandIn t = false := by
  obtain rfl : f = 5 := Option.some.inj ((show Tryz.prog.funcNamed "waypoint/waypointlaw15.ConfigSpaces" = some 5 by kernel_rfl).symm.trans hf) |>.symm
  obtain rfl : fn = Tryz.f5 := (Option.some.inj (Tryz.func5.symm.trans hfn)).symm
  refine ⟨by kernel_rfl, fun j t ht => ?_⟩
  rw [Tryz.params5] at ht
  have hm : t ∈ [9, 45] := by simpa using Array.mem_of_getElem? ht
  have hall : ([9, 45].all fun u => !Tryz.prog.wantsStandIn u) = true := by kernel_rfl
  exact (show Tryz.prog.wantsStandIn t = false by simpa using List.all_eq_true.1 hall t hm)

/-- The card: the statement. -/
theorem card : Rows.ConfigSpacesCardSaid :=
  Claim7.holds_tied_plain_at .later [] _ _ _ _ said (fun _ h => by cases h) (by kernel_rfl) (fun _ h => by cases h) configSpaces_row_tie rfl ⟨rfl, rfl⟩ (by kernel_rfl) rfl plain (by kernel_rfl)
#print axioms card
end Go.Proofs.YtpofbhaipeiegaaGreatDoor.configSpaces
