/-
  waypointref09.Parse: what it returns for every text.
-/
import Derived.Test.YtfbloolloifndaaDoorRetTP
import Derived.Test.YtfbloolloifndaaDoorRefT
import Derived.Test.YtfbloolloifndaaDoorRSplit
import Derived.Test.YtfbloolloifndaaDoorTakeC
import Derived.Deep.AppendLies
import Derived.BigQuiet
import Derived.Deep.RegionHeld3
import Derived.Deep.Cut
namespace Go.Proofs.YtfbloolloifndaaDoor
open Go.RowKit Go.Sort
set_option linter.unusedSimpArgs false
set_option linter.unusedVariables false

set_option maxRecDepth 100000 in
set_option maxHeartbeats 8000000 in
theorem ref09_ParseT (s : List UInt8) (hs : s.length ≤ 100000) (w : World) :
    Calls Tryd.prog 12 #[.string ⟨s.toArray⟩] w (RetTP w (topoR s)) := by
  obtain ⟨i0, hi, hz0, hz1, hz2⟩ := info_parts lnkInfo
  obtain ⟨V, hV⟩ : ∃ V, V = topoR s := ⟨_, rfl⟩
  rw [← hV]
  have HV := Lib.hid hV
  clear hV
  obtain ⟨ps, cur, hsp⟩ := split_last 10 s
  have hpl : ps.length ≤ 100000 := by have := splitK_len 10 [] s; rw [hsp, List.length_append] at this; simp at this; omega
  have hpx : ∀ x ∈ ps, x.length ≤ 100000 := fun x hx => by have := splitK_mem (c := 10) (s := s) (x := x) (by rw [hsp]; simp [hx]); omega
  have HPX := Lib.hid hpx
  have HLR : Hid (linesR s = ps) := Lib.hid (by unfold linesR; rw [hsp]; simp)
  have HOK : Hid (okR s = decide (cur = [])) := Lib.hid (by unfold okR; rw [hsp]; simp)
  have HC := Lib.hid (ref09_Split s 10 ps cur hsp (by omega))
  clear hsp hpx
  obtain ⟨B0, hB0⟩ : ∃ B0, B0 = decide (cur = []) := ⟨_, rfl⟩
  rw [← hB0] at HOK HC
  clear hB0
  have HBW := Lib.hid (below_box w (.cells #[.int .i64 0, .slice none 0 0, .slice none 0 0] 25))
  go_enter Tryd.func12, Tryd.ntmps12
  go_wp2_with (go_at_call 24; refine (HC.out _).mono ?_; rintro e w1 ⟨A, cp, rfl, hc1, hc2, hrd, hb⟩; have HRD := Lib.hid hrd; have HB := Lib.hid (below_next HBW.out hb); have HCC := Lib.hid (And.intro hc1 hc2); have HRB := Lib.hid ((hb.block w.heap.size (by simp)).trans (heap_alloc_new w _)); have HRT := Lib.hid (rt_start w1); clear hrd hb hc1 hc2)
  have h00 : w.heap.size < w1.heap.size := lt_of_heap HRB.out
  go_loopw [7] (fun iv wr => ∃ (k : Nat) (t : Topo) (ov ls : Value), k ≤ ps.length ∧ iv = .int .i64 k ∧ Hid (t.ls.length ≤ k) ∧ Hid (foldR k (ps.drop k) t = foldR 0 ps zeroT) ∧ Hid (RT w1.heap.size (w1.heap.size + 1) t ov ls wr) ∧ Hid (Below w1.heap.size w1 wr)) (fun iv _ => ps.length - (intOf iv).toNat)
  case atStart => exact ⟨0, zeroT, _, _, Nat.zero_le _, rfl, Lib.hid (Nat.le_refl _), Lib.hid rfl, HRT, Lib.hid (below_box w1 _)⟩
  case round =>
    clear HRT
    obtain ⟨k, t, ov, ls, hk, rfl, HTL, HF, HRT, HW⟩ := hrel
    have HRB2 := Lib.hid ((HW.out.block w.heap.size (by omega)).trans HRB.out)
    cases B0 with
    | false =>
      have HVV : Hid (V = (zeroT, 3)) := Lib.hid (by rw [HV.out]; unfold topoR; rw [HOK.out]; simp)
      have z0 := Lib.cell_of_heap HRB2.out (j := 0)
      have z1 := Lib.cell_of_heap HRB2.out (j := 1)
      have z2 := Lib.cell_of_heap HRB2.out (j := 2)
      have zf0 : wr.frozen? ⟨w.heap.size, 0, none⟩ = false := Lib.frozen_of_heap HRB2.out _
      have zf1 : wr.frozen? ⟨w.heap.size, 1, none⟩ = false := Lib.frozen_of_heap HRB2.out _
      have zf2 : wr.frozen? ⟨w.heap.size, 2, none⟩ = false := Lib.frozen_of_heap HRB2.out _
      go_wp2_with fail
      have hz := box_set3 (x := .int .i64 0) (y := .slice none 0 0) (z := .slice none 0 0) HRB2.out
      have hz0 := Lib.cell_of_heap hz (j := 0)
      have hz1 := Lib.cell_of_heap hz (j := 1)
      have hz2 := Lib.cell_of_heap hz (j := 2)
      rw [HVV.out]
      exact bodyPost_ret (v := .tuple #[.agg #[.int .i64 0, .slice none 0 0, .slice none 0 0], .int .i64 3]) (by simp [results, Tryd.results12, go_sem, hz0, hz1, hz2]) rfl (retTP_zero (below_set3 (HB.out.trans (HW.out.mono (Nat.le_of_lt h00))) (Nat.le_refl _) _ _ _))
    | true =>
      by_cases hlt : k < ps.length
      · obtain ⟨x, hx⟩ : ∃ x, ps[k]? = some x := ⟨_, List.getElem?_eq_getElem hlt⟩
        have hxl := HPX.out x (List.mem_of_getElem? hx)
        obtain ⟨b, o, rfl, q0⟩ := strs_atT (HRD.out.below HW.out) hx
        obtain ⟨ws, hws⟩ : ∃ ws, ws = splitK 32 [] x := ⟨_, rfl⟩
        have hwl : ws.length ≤ 100001 := by rw [hws]; have := splitK_len 32 [] x; omega
        have HWX : Hid (∀ y ∈ ws, y.length ≤ 100000) := Lib.hid (by rw [hws]; intro y hy; have := splitK_mem hy; omega)
        have hf := foldR_at (t := t) hx
        rw [← hws, HF.out] at hf
        have HF2 := Lib.hid hf
        clear hf HF hx
        have HC2 : Hid (∀ w', Calls Tryd.prog 24 #[.string ⟨(x ++ [32]).toArray⟩, .int .u8 32] w' (RetSB w' ws true)) := Lib.hid fun w' => by
          have := ref09_Split (x ++ [32]) 32 ws [] (by rw [hws, split_endc]) (by simp; omega) w'
          simpa using this
        have HC3 : Hid (∀ w', Calls Tryd.prog 24 #[.string ⟨(x ++ [32]).toArray⟩, .int .u8 32] w' (RetSBF w' ws true)) := Lib.hid fun w' => by
          have := ref09_SplitF (x ++ [32]) 32 ws [] (by rw [hws, split_endc]) (by simp; omega) w'
          simpa using this
        clear hws
        have ca : ∀ w', (Op.stringOp .add ⟨x.toArray⟩ ⟨#[32]⟩).run Tryd.prog w' = .ok (.string ⟨(x ++ [32]).toArray⟩) w' := catS x [32] _ rfl (by omega) (by simp)
        generalize x ++ [32] = x2 at *
        by_cases w2 : ws.length = 2
        · obtain ⟨y, hy⟩ : ∃ y, ws[1]? = some y := ⟨_, List.getElem?_eq_getElem (by omega)⟩
          have hyl := HWX.out y (List.mem_of_getElem? hy)
          have HY := Lib.hid hy
          have HYW : Hid (wordR ws 1 = valN y) := Lib.hid (by unfold wordR; rw [List.getD_eq_getElem?_getD, hy]; rfl)
          clear hy
          have c2 : ((ws.length : Int) == 2) = true := by rw [w2]; rfl
          have HW2 := Lib.hid w2
          have hw1 : (1 : Int) < (ws.length : Int) := by omega
          have hw1' : 1 < ws.length := by omega
          clear w2
          by_cases k0 : k = 0
          · subst k0
            rw [Nat.add_zero] at q0
            have h0 : (0 : Int) < (ps.length : Int) := by omega
            have HS : Hid (stepR 0 t ws = { t with n := valN y }) := Lib.hid (by unfold stepR; rw [if_pos ⟨rfl, HW2.out⟩, HYW.out])
            go_wp2_with (first | (go_at_call 24; (with_reducible refine (HC2.out _).mono ?_); rintro e w2 ⟨Aw, cw, rfl, hw1, hw2, hrw, hb⟩; replace HRT := Lib.hid (HRT.out.up hb); replace HW := Lib.hid (below_next HW.out hb); have HCW := Lib.hid (And.intro hw1 hw2); obtain ⟨bw, ow, rfl, q1⟩ := strs_atT hrw HY.out; obtain ⟨b0, b1, b2, bf⟩ := HRT.out.cells; clear hb q0 hrw hw1 hw2) | (go_at_call 25; refine (ref09_Value y (by omega) _).mono ?_; rintro e w3 ⟨rfl, rfl⟩))
            go_roundw
            case rel => exact ⟨1, { t with n := valN y }, ov, ls, by omega, rfl, Lib.hid (Nat.le_trans HTL.out (Nat.zero_le 1)), Lib.hid (by rw [← HS.out]; exact HF2.out.symm), Lib.hid (HRT.out.setN _), Lib.hid (HW.out.setCell (Nat.le_refl _) _)⟩
            case measure => simp [intOf]; omega
          · have ck : ((k : Int) == 0) = false := by rw [beq_eq_false_iff_ne]; omega
            obtain ⟨v, hv⟩ : ∃ v, v = valN y := ⟨_, rfl⟩
            have HVAL : Hid (∀ W, Calls Tryd.prog 25 #[.string ⟨y.toArray⟩] W fun e w'' => e = .returned (.int .i64 v) ∧ w'' = W) := Lib.hid fun W => by rw [hv]; exact ref09_Value y (by omega) W
            rw [← hv] at HYW
            have HS : Hid (stepR k t ws = markR (ovR t) v) := Lib.hid (by unfold stepR; rw [if_neg (fun h => k0 h.1), if_pos HW2.out, HYW.out])
            obtain ⟨A1, A2, c1, c2, rfl, rfl, _⟩ := HRT.out.tat
            clear hv k0
            obtain ⟨L, hL⟩ : ∃ L, L = t.ov.length := ⟨_, rfl⟩
            by_cases p0 : t.ov.length = 0
            · have e0 : ((t.ov.length : Int) == 0) = true := by rw [p0]; rfl
              by_cases p1 : t.n < 1
              · clear hL
                have HOV : Hid (ovR t = t) := Lib.hid (by unfold ovR; rw [if_neg (by omega)])
                by_cases v0 : v < 0
                · have HM : Hid (markR (ovR t) v = t) := Lib.hid (by rw [HOV.out]; unfold markR; rw [if_neg (by omega)])
                  go_wp2_with (first | (go_at_call 24; (with_reducible refine (HC2.out _).mono ?_); rintro e w2 ⟨Aw, cw, rfl, hw1, hw2, hrw, hb⟩; replace HRT := Lib.hid (HRT.out.up hb); replace HW := Lib.hid (below_next HW.out hb); have HCW := Lib.hid (And.intro hw1 hw2); obtain ⟨bw, ow, rfl, q1⟩ := strs_atT hrw HY.out; obtain ⟨b0, b1, b2, bf⟩ := HRT.out.cells; clear hb q0 hrw hw1 hw2) | (go_at_call 25; refine (HVAL.out _).mono ?_; rintro e w3 ⟨rfl, rfl⟩))
                  go_roundw
                  case rel => exact ⟨k + 1, t, _, _, by omega, by go_num, Lib.hid (by have := HTL.out; simp at this ⊢; omega), Lib.hid (by have := HF2.out; rw [HS.out, HM.out] at this; exact this.symm), HRT, HW⟩
                  case measure => simp [intOf]; omega
                have v0' : (0 : Int) ≤ v := by omega
                by_cases v1 : v < (t.ov.length : Int)
                · omega
                · have HM : Hid (markR (ovR t) v = t) := Lib.hid (by rw [HOV.out]; unfold markR; rw [if_neg (by omega)])
                  go_wp2_with (first | (go_at_call 24; (with_reducible refine (HC2.out _).mono ?_); rintro e w2 ⟨Aw, cw, rfl, hw1, hw2, hrw, hb⟩; replace HRT := Lib.hid (HRT.out.up hb); replace HW := Lib.hid (below_next HW.out hb); have HCW := Lib.hid (And.intro hw1 hw2); obtain ⟨bw, ow, rfl, q1⟩ := strs_atT hrw HY.out; obtain ⟨b0, b1, b2, bf⟩ := HRT.out.cells; clear hb q0 hrw hw1 hw2) | (go_at_call 25; refine (HVAL.out _).mono ?_; rintro e w3 ⟨rfl, rfl⟩))
                  go_roundw
                  case rel => exact ⟨k + 1, t, _, _, by omega, by go_num, Lib.hid (by have := HTL.out; simp at this ⊢; omega), Lib.hid (by have := HF2.out; rw [HS.out, HM.out] at this; exact this.symm), HRT, HW⟩
                  case measure => simp [intOf]; omega
              have p1' : (1 : Int) ≤ t.n := by omega
              by_cases p2 : 64 < t.n
              · clear hL
                have HOV : Hid (ovR t = t) := Lib.hid (by unfold ovR; rw [if_neg (by omega)])
                by_cases v0 : v < 0
                · have HM : Hid (markR (ovR t) v = t) := Lib.hid (by rw [HOV.out]; unfold markR; rw [if_neg (by omega)])
                  go_wp2_with (first | (go_at_call 24; (with_reducible refine (HC2.out _).mono ?_); rintro e w2 ⟨Aw, cw, rfl, hw1, hw2, hrw, hb⟩; replace HRT := Lib.hid (HRT.out.up hb); replace HW := Lib.hid (below_next HW.out hb); have HCW := Lib.hid (And.intro hw1 hw2); obtain ⟨bw, ow, rfl, q1⟩ := strs_atT hrw HY.out; obtain ⟨b0, b1, b2, bf⟩ := HRT.out.cells; clear hb q0 hrw hw1 hw2) | (go_at_call 25; refine (HVAL.out _).mono ?_; rintro e w3 ⟨rfl, rfl⟩))
                  go_roundw
                  case rel => exact ⟨k + 1, t, _, _, by omega, by go_num, Lib.hid (by have := HTL.out; simp at this ⊢; omega), Lib.hid (by have := HF2.out; rw [HS.out, HM.out] at this; exact this.symm), HRT, HW⟩
                  case measure => simp [intOf]; omega
                have v0' : (0 : Int) ≤ v := by omega
                by_cases v1 : v < (t.ov.length : Int)
                · omega
                · have HM : Hid (markR (ovR t) v = t) := Lib.hid (by rw [HOV.out]; unfold markR; rw [if_neg (by omega)])
                  go_wp2_with (first | (go_at_call 24; (with_reducible refine (HC2.out _).mono ?_); rintro e w2 ⟨Aw, cw, rfl, hw1, hw2, hrw, hb⟩; replace HRT := Lib.hid (HRT.out.up hb); replace HW := Lib.hid (below_next HW.out hb); have HCW := Lib.hid (And.intro hw1 hw2); obtain ⟨bw, ow, rfl, q1⟩ := strs_atT hrw HY.out; obtain ⟨b0, b1, b2, bf⟩ := HRT.out.cells; clear hb q0 hrw hw1 hw2) | (go_at_call 25; refine (HVAL.out _).mono ?_; rintro e w3 ⟨rfl, rfl⟩))
                  go_roundw
                  case rel => exact ⟨k + 1, t, _, _, by omega, by go_num, Lib.hid (by have := HTL.out; simp at this ⊢; omega), Lib.hid (by have := HF2.out; rw [HS.out, HM.out] at this; exact this.symm), HRT, HW⟩
                  case measure => simp [intOf]; omega
              have p2' : t.n ≤ 64 := by omega
              obtain ⟨N, hN⟩ : ∃ N : Nat, t.n = (N : Int) := ⟨t.n.toNat, by omega⟩
              have hmk : ∀ W, (Instr.makeSlice 22 (.int .i64 (N : Int)) (.int .i64 (N : Int))).run Tryd.prog W = .ok (.slice (some ⟨W.heap.size, 0, none⟩) N N) (mkW N W) := fun W => run_mkW N (by omega) W
              have HOV : Hid (ovR t = { t with ov := List.replicate N false }) := Lib.hid (by unfold ovR; rw [if_pos ⟨p0, p1', p2'⟩, hN]; rfl)
              have hN64 : N ≤ 64 := by omega
              clear hL HW2
              go_upto_region 13 with (first | (go_at_call 24; (with_reducible refine (HC2.out _).mono ?_); rintro e w2 ⟨Aw, cw, rfl, hw1, hw2, hrw, hb⟩; replace HRT := Lib.hid (HRT.out.up hb); replace HW := Lib.hid (below_next HW.out hb); have HCW := Lib.hid (And.intro hw1 hw2); obtain ⟨bw, ow, rfl, q1⟩ := strs_atT hrw HY.out; obtain ⟨b0, b1, b2, bf⟩ := HRT.out.cells; have n1 := cell_up (mkW_below N _) b1; have n2 : (mkW N w2).frozen? ⟨w1.heap.size, 1, none⟩ = false := (HRT.out.up (mkW_below N _)).cells.2.2.2 1; have HRT2 := Lib.hid (HRT.out.make N (by omega)); have HW2 := Lib.hid ((below_next HW.out (mkW_below N w2)).setCell (p := ⟨w1.heap.size, 1, none⟩) (Nat.le_refl _) (.slice (some ⟨w2.heap.size, 0, none⟩) N N)); clear hb q0 hrw hw1 hw2) | (go_at_call 25; refine (HVAL.out _).mono ?_; rintro e w3 ⟨rfl, rfl⟩))
              have hRW := HRT2.out
              have hWW := HW2.out
              clear HRT2 HW2 HRT HW n1 n2 hmk b0 b1 b2 bf
              generalize hW3 : ((mkW N _).setCell _ _) = W3 at hRW hWW ⊢
              have HRT := Lib.hid hRW
              have HW := Lib.hid hWW
              clear hW3 hRW hWW
              obtain ⟨b0, b1, b2, bf⟩ := HRT.out.cells
              by_cases v0 : v < 0
              · have HM : Hid (markR (ovR t) v = { t with ov := List.replicate N false }) := Lib.hid (by rw [HOV.out]; unfold markR; rw [if_neg (by omega)])
                go_wp2_with fail
                go_roundw
                case rel => exact ⟨k + 1, { t with ov := List.replicate N false }, _, _, by omega, by go_num, Lib.hid (by have := HTL.out; simp at this ⊢; omega), Lib.hid (by have := HF2.out; rw [HS.out, HM.out] at this; exact this.symm), HRT, HW⟩
                case measure => simp [intOf]; omega
              have v0' : (0 : Int) ≤ v := by omega
              by_cases v1 : v < (N : Int)
              · obtain ⟨m, rfl⟩ : ∃ m : Nat, v = (m : Int) := ⟨v.toNat, by omega⟩
                have HM : Hid (markR (ovR t) (m : Int) = { t with ov := (List.replicate N false).set m true }) := Lib.hid (by rw [HOV.out]; unfold markR; rw [if_pos ⟨v0', by simpa using v1⟩]; rfl)
                obtain ⟨g, hgA, ⟨bo, m0⟩, m1, hg, hR⟩ := RT.mark (t := { t with ov := List.replicate N false }) (A := some ⟨_, 0, none⟩) (c := N) (k := m) (by simpa using HRT.out) (by simp; omega)
                injection hgA with hgA
                injection hgA with hgA _ _
                subst hgA
                have HR2 := Lib.hid hR
                have HG := Lib.hid hg
                clear hR hg
                go_wp2_with fail
                go_roundw
                case rel => exact ⟨k + 1, { t with ov := (List.replicate N false).set m true }, _, _, by omega, by go_num, Lib.hid (by have := HTL.out; simp at this ⊢; omega), Lib.hid (by have := HF2.out; rw [HS.out, HM.out] at this; exact this.symm), Lib.hid (by have := HR2.out; simpa using this), Lib.hid (HW.out.setCell (by have := HG.out; simp; omega) _)⟩
                case measure => simp [intOf]; omega
              · have HM : Hid (markR (ovR t) v = { t with ov := List.replicate N false }) := Lib.hid (by rw [HOV.out]; unfold markR; rw [if_neg (by simp; omega)])
                go_wp2_with fail
                go_roundw
                case rel => exact ⟨k + 1, { t with ov := List.replicate N false }, _, _, by omega, by go_num, Lib.hid (by have := HTL.out; simp at this ⊢; omega), Lib.hid (by have := HF2.out; rw [HS.out, HM.out] at this; exact this.symm), HRT, HW⟩
                case measure => simp [intOf]; omega
            · have e0 : ((t.ov.length : Int) == 0) = false := by rw [beq_eq_false_iff_ne]; omega
              clear hL
              have HOV : Hid (ovR t = t) := Lib.hid (by unfold ovR; rw [if_neg (by omega)])
              by_cases v0 : v < 0
              · have HM : Hid (markR (ovR t) v = t) := Lib.hid (by rw [HOV.out]; unfold markR; rw [if_neg (by omega)])
                go_wp2_with (first | (go_at_call 24; (with_reducible refine (HC2.out _).mono ?_); rintro e w2 ⟨Aw, cw, rfl, hw1, hw2, hrw, hb⟩; replace HRT := Lib.hid (HRT.out.up hb); replace HW := Lib.hid (below_next HW.out hb); have HCW := Lib.hid (And.intro hw1 hw2); obtain ⟨bw, ow, rfl, q1⟩ := strs_atT hrw HY.out; obtain ⟨b0, b1, b2, bf⟩ := HRT.out.cells; clear hb q0 hrw hw1 hw2) | (go_at_call 25; refine (HVAL.out _).mono ?_; rintro e w3 ⟨rfl, rfl⟩))
                go_roundw
                case rel => exact ⟨k + 1, t, _, _, by omega, by go_num, Lib.hid (by have := HTL.out; simp at this ⊢; omega), Lib.hid (by have := HF2.out; rw [HS.out, HM.out] at this; exact this.symm), HRT, HW⟩
                case measure => simp [intOf]; omega
              have v0' : (0 : Int) ≤ v := by omega
              by_cases v1 : v < (t.ov.length : Int)
              · obtain ⟨m, rfl⟩ : ∃ m : Nat, v = (m : Int) := ⟨v.toNat, by omega⟩
                have HM : Hid (markR (ovR t) (m : Int) = { t with ov := t.ov.set m true }) := Lib.hid (by rw [HOV.out]; unfold markR; rw [if_pos ⟨v0', v1⟩]; rfl)
                go_upto_region 14 with (first | (go_at_call 24; (with_reducible refine (HC2.out _).mono ?_); rintro e w2 ⟨Aw, cw, rfl, hw1, hw2, hrw, hb⟩; replace HRT := Lib.hid (HRT.out.up hb); replace HW := Lib.hid (below_next HW.out hb); have HCW := Lib.hid (And.intro hw1 hw2); obtain ⟨bw, ow, rfl, q1⟩ := strs_atT hrw HY.out; obtain ⟨b0, b1, b2, bf⟩ := HRT.out.cells; clear hb q0 hrw hw1 hw2) | (go_at_call 25; refine (HVAL.out _).mono ?_; rintro e w3 ⟨rfl, rfl⟩))
                obtain ⟨g, rfl, ⟨bo, m0⟩, m1, hg, hR⟩ := HRT.out.mark (k := m) (by omega)
                have HR2 := Lib.hid hR
                have HG := Lib.hid hg
                clear hR hg
                go_wp2_with fail
                go_roundw
                case rel => exact ⟨k + 1, { t with ov := t.ov.set m true }, _, _, by omega, by go_num, Lib.hid (by have := HTL.out; simp at this ⊢; omega), Lib.hid (by have := HF2.out; rw [HS.out, HM.out] at this; exact this.symm), Lib.hid (by have := HR2.out; simpa using this), Lib.hid (HW.out.setCell (by have := HG.out; simp; omega) _)⟩
                case measure => simp [intOf]; omega
              · have HM : Hid (markR (ovR t) v = t) := Lib.hid (by rw [HOV.out]; unfold markR; rw [if_neg (by omega)])
                go_wp2_with (first | (go_at_call 24; (with_reducible refine (HC2.out _).mono ?_); rintro e w2 ⟨Aw, cw, rfl, hw1, hw2, hrw, hb⟩; replace HRT := Lib.hid (HRT.out.up hb); replace HW := Lib.hid (below_next HW.out hb); have HCW := Lib.hid (And.intro hw1 hw2); obtain ⟨bw, ow, rfl, q1⟩ := strs_atT hrw HY.out; obtain ⟨b0, b1, b2, bf⟩ := HRT.out.cells; clear hb q0 hrw hw1 hw2) | (go_at_call 25; refine (HVAL.out _).mono ?_; rintro e w3 ⟨rfl, rfl⟩))
                go_roundw
                case rel => exact ⟨k + 1, t, _, _, by omega, by go_num, Lib.hid (by have := HTL.out; simp at this ⊢; omega), Lib.hid (by have := HF2.out; rw [HS.out, HM.out] at this; exact this.symm), HRT, HW⟩
                case measure => simp [intOf]; omega
        by_cases w8 : ws.length = 8
        · have HW8 := Lib.hid w8
          obtain ⟨y1, hy1⟩ : ∃ y, ws[1]? = some y := ⟨_, List.getElem?_eq_getElem (by omega)⟩
          have hyl1 := HWX.out y1 (List.mem_of_getElem? hy1)
          have HY1 := Lib.hid hy1
          obtain ⟨v1, hv1⟩ : ∃ v, v = valN y1 := ⟨_, rfl⟩
          have HV1 : Hid (∀ W, Calls Tryd.prog 25 #[.string ⟨y1.toArray⟩] W fun e w'' => e = .returned (.int .i64 v1) ∧ w'' = W) := Lib.hid fun W => by rw [hv1]; exact ref09_Value y1 (by omega) W
          have HYW1 : Hid (wordR ws 1 = v1) := Lib.hid (by rw [hv1]; unfold wordR; rw [List.getD_eq_getElem?_getD, hy1]; rfl)
          have hi1 : (1 : Int) < (ws.length : Int) := by omega
          have hj1 : 1 < ws.length := by omega
          clear hy1 hyl1 hv1
          obtain ⟨y2, hy2⟩ : ∃ y, ws[2]? = some y := ⟨_, List.getElem?_eq_getElem (by omega)⟩
          have hyl2 := HWX.out y2 (List.mem_of_getElem? hy2)
          have HY2 := Lib.hid hy2
          obtain ⟨v2, hv2⟩ : ∃ v, v = valN y2 := ⟨_, rfl⟩
          have HV2 : Hid (∀ W, Calls Tryd.prog 25 #[.string ⟨y2.toArray⟩] W fun e w'' => e = .returned (.int .i64 v2) ∧ w'' = W) := Lib.hid fun W => by rw [hv2]; exact ref09_Value y2 (by omega) W
          have HYW2 : Hid (wordR ws 2 = v2) := Lib.hid (by rw [hv2]; unfold wordR; rw [List.getD_eq_getElem?_getD, hy2]; rfl)
          have hi2 : (2 : Int) < (ws.length : Int) := by omega
          have hj2 : 2 < ws.length := by omega
          clear hy2 hyl2 hv2
          obtain ⟨y3, hy3⟩ : ∃ y, ws[3]? = some y := ⟨_, List.getElem?_eq_getElem (by omega)⟩
          have hyl3 := HWX.out y3 (List.mem_of_getElem? hy3)
          have HY3 := Lib.hid hy3
          obtain ⟨v3, hv3⟩ : ∃ v, v = valN y3 := ⟨_, rfl⟩
          have HV3 : Hid (∀ W, Calls Tryd.prog 25 #[.string ⟨y3.toArray⟩] W fun e w'' => e = .returned (.int .i64 v3) ∧ w'' = W) := Lib.hid fun W => by rw [hv3]; exact ref09_Value y3 (by omega) W
          have HYW3 : Hid (wordR ws 3 = v3) := Lib.hid (by rw [hv3]; unfold wordR; rw [List.getD_eq_getElem?_getD, hy3]; rfl)
          have hi3 : (3 : Int) < (ws.length : Int) := by omega
          have hj3 : 3 < ws.length := by omega
          clear hy3 hyl3 hv3
          obtain ⟨y4, hy4⟩ : ∃ y, ws[4]? = some y := ⟨_, List.getElem?_eq_getElem (by omega)⟩
          have hyl4 := HWX.out y4 (List.mem_of_getElem? hy4)
          have HY4 := Lib.hid hy4
          obtain ⟨v4, hv4⟩ : ∃ v, v = valN y4 := ⟨_, rfl⟩
          have HV4 : Hid (∀ W, Calls Tryd.prog 25 #[.string ⟨y4.toArray⟩] W fun e w'' => e = .returned (.int .i64 v4) ∧ w'' = W) := Lib.hid fun W => by rw [hv4]; exact ref09_Value y4 (by omega) W
          have HYW4 : Hid (wordR ws 4 = v4) := Lib.hid (by rw [hv4]; unfold wordR; rw [List.getD_eq_getElem?_getD, hy4]; rfl)
          have hi4 : (4 : Int) < (ws.length : Int) := by omega
          have hj4 : 4 < ws.length := by omega
          clear hy4 hyl4 hv4
          obtain ⟨y5, hy5⟩ : ∃ y, ws[5]? = some y := ⟨_, List.getElem?_eq_getElem (by omega)⟩
          have hyl5 := HWX.out y5 (List.mem_of_getElem? hy5)
          have HY5 := Lib.hid hy5
          obtain ⟨v5, hv5⟩ : ∃ v, v = valN y5 := ⟨_, rfl⟩
          have HV5 : Hid (∀ W, Calls Tryd.prog 25 #[.string ⟨y5.toArray⟩] W fun e w'' => e = .returned (.int .i64 v5) ∧ w'' = W) := Lib.hid fun W => by rw [hv5]; exact ref09_Value y5 (by omega) W
          have HYW5 : Hid (wordR ws 5 = v5) := Lib.hid (by rw [hv5]; unfold wordR; rw [List.getD_eq_getElem?_getD, hy5]; rfl)
          have hi5 : (5 : Int) < (ws.length : Int) := by omega
          have hj5 : 5 < ws.length := by omega
          clear hy5 hyl5 hv5
          obtain ⟨y6, hy6⟩ : ∃ y, ws[6]? = some y := ⟨_, List.getElem?_eq_getElem (by omega)⟩
          have hyl6 := HWX.out y6 (List.mem_of_getElem? hy6)
          have HY6 := Lib.hid hy6
          obtain ⟨v6, hv6⟩ : ∃ v, v = valN y6 := ⟨_, rfl⟩
          have HV6 : Hid (∀ W, Calls Tryd.prog 25 #[.string ⟨y6.toArray⟩] W fun e w'' => e = .returned (.int .i64 v6) ∧ w'' = W) := Lib.hid fun W => by rw [hv6]; exact ref09_Value y6 (by omega) W
          have HYW6 : Hid (wordR ws 6 = v6) := Lib.hid (by rw [hv6]; unfold wordR; rw [List.getD_eq_getElem?_getD, hy6]; rfl)
          have hi6 : (6 : Int) < (ws.length : Int) := by omega
          have hj6 : 6 < ws.length := by omega
          clear hy6 hyl6 hv6
          obtain ⟨y7, hy7⟩ : ∃ y, ws[7]? = some y := ⟨_, List.getElem?_eq_getElem (by omega)⟩
          have hyl7 := HWX.out y7 (List.mem_of_getElem? hy7)
          have HY7 := Lib.hid hy7
          obtain ⟨v7, hv7⟩ : ∃ v, v = valN y7 := ⟨_, rfl⟩
          have HV7 : Hid (∀ W, Calls Tryd.prog 25 #[.string ⟨y7.toArray⟩] W fun e w'' => e = .returned (.int .i64 v7) ∧ w'' = W) := Lib.hid fun W => by rw [hv7]; exact ref09_Value y7 (by omega) W
          have HYW7 : Hid (wordR ws 7 = v7) := Lib.hid (by rw [hv7]; unfold wordR; rw [List.getD_eq_getElem?_getD, hy7]; rfl)
          have hi7 : (7 : Int) < (ws.length : Int) := by omega
          have hj7 : 7 < ws.length := by omega
          clear hy7 hyl7 hv7
          have c2 : ((ws.length : Int) == 2) = false := by rw [beq_eq_false_iff_ne]; omega
          have c8 : ((ws.length : Int) == 8) = true := by rw [w8]; rfl
          have HS : Hid (stepR k t ws = { t with ls := t.ls ++ [⟨v1, v2, v3, v4, v5, v6, v7⟩] }) := Lib.hid (by unfold stepR; rw [if_neg (fun h => w2 h.2), if_neg w2, if_pos w8, HYW1.out, HYW2.out, HYW3.out, HYW4.out, HYW5.out, HYW6.out, HYW7.out])
          clear w2 w8 HYW1 HYW2 HYW3 HYW4 HYW5 HYW6 HYW7
          by_cases k0 : k = 0
          · subst k0
            rw [Nat.add_zero] at q0
            have h0 : (0 : Int) < (ps.length : Int) := by omega
            go_upto_region 16 with (go_at_call 24; (with_reducible refine (HC3.out _).mono ?_); rintro e w2 ⟨Aw, cw, rfl, hw1, hw2, hrw, hb, hfr⟩; have HNL0 := Lib.hid (fun g (h : ls.ownBlock = some g) => (HRT.out.hl.lt g h).2); have HT1 := Lib.hid (lt_of_heap HRT.out.st); replace HRT := Lib.hid (HRT.out.up hb); replace HW := Lib.hid (below_next HW.out hb); have HCW := Lib.hid (And.intro hw1 hw2); obtain ⟨bw, ow, rfl, q1⟩ := strs_atT hrw HY1.out; obtain ⟨bw', ow', e', q2⟩ := strs_atT hrw HY2.out; injection e' with e'; injection e' with e1 e2; subst e1 e2; obtain ⟨bw', ow', e', q3⟩ := strs_atT hrw HY3.out; injection e' with e'; injection e' with e1 e2; subst e1 e2; obtain ⟨bw', ow', e', q4⟩ := strs_atT hrw HY4.out; injection e' with e'; injection e' with e1 e2; subst e1 e2; obtain ⟨bw', ow', e', q5⟩ := strs_atT hrw HY5.out; injection e' with e'; injection e' with e1 e2; subst e1 e2; obtain ⟨bw', ow', e', q6⟩ := strs_atT hrw HY6.out; injection e' with e'; injection e' with e1 e2; subst e1 e2; obtain ⟨bw', ow', e', q7⟩ := strs_atT hrw HY7.out; injection e' with e'; injection e' with e1 e2; subst e1 e2; have hfr2 := hfr _ rfl; have HNL : Hid (ls.ownBlock ≠ some bw) := Lib.hid (fun h => by have h8 := HNL0.out _ h; have h7 : _ ≤ bw := hfr2; omega); have HNB : Hid (w1.heap.size ≠ bw) := Lib.hid (fun h => by have h8 := HT1.out; have h7 : _ ≤ bw := hfr2; omega); obtain ⟨b0, b1, b2, bf⟩ := HRT.out.cells; clear hb q0 hrw hw1 hw2 hfr hfr2 HNL0 HT1)
            replace HRT := Lib.hid (HRT.out.up (below_drw1 w2))
            replace HW := Lib.hid (below_next HW.out (below_drw1 w2))
            clear b0 b1 b2 bf
            obtain ⟨W4, hW4⟩ : ∃ W, W = w2.drew := ⟨_, rfl⟩
            rw [← hW4] at HRT HW
            refine wp_region_held_drew (S := (fun w' => w'.cell? ⟨bw, ow + 1, none⟩ = some (.string ⟨y1.toArray⟩) ∧ w'.cell? ⟨bw, ow + 2, none⟩ = some (.string ⟨y2.toArray⟩) ∧ w'.cell? ⟨bw, ow + 3, none⟩ = some (.string ⟨y3.toArray⟩) ∧ w'.cell? ⟨bw, ow + 4, none⟩ = some (.string ⟨y4.toArray⟩) ∧ w'.cell? ⟨bw, ow + 5, none⟩ = some (.string ⟨y5.toArray⟩) ∧ w'.cell? ⟨bw, ow + 6, none⟩ = some (.string ⟨y6.toArray⟩) ∧ w'.cell? ⟨bw, ow + 7, none⟩ = some (.string ⟨y7.toArray⟩))) (by kernel_rfl) ?_ (fun hHeld => ?_)
            · exact ⟨q1, q2, q3, q4, q5, q6, q7⟩
            rw [← hW4] at hHeld ⊢
            clear hW4 q1 q2 q3 q4 q5 q6 q7
            obtain ⟨b0, b1, b2, bf⟩ := HRT.out.cells
            have ht4 : w1.heap.size < W4.heap.size := lt_of_heap HRT.out.st
            have ht5 : w1.heap.size ≠ W4.heap.size := Nat.ne_of_lt ht4
            have ht6 : W4.heap.size ≠ w1.heap.size := Nat.ne_of_gt ht4
            (refine takeL (i := 0) (v := ?_) rfl (by kernel_rfl) (by decide +kernel) (by decide +kernel) (fun _ _ _ h => h) (Or.inl ⟨by rfl, ?_⟩) (by assumption) ?_; rotate_left; (focus (intro w9 hS9; (try dsimp only at hS9); go_simp; (try with_reducible rfl); done)))
            (try simp only [Act.put, List.setIfInBounds_toArray, List.set_cons_zero, List.set_cons_succ])
            (refine takeL (i := 2) (v := ?_) rfl (by kernel_rfl) (by decide +kernel) (by decide +kernel) (fun _ _ _ h => h) (Or.inl ⟨by rfl, ?_⟩) (by assumption) ?_; rotate_left; (focus (intro w9 hS9; (try dsimp only at hS9); go_simp; (try with_reducible rfl); done)))
            (try simp only [Act.put, List.setIfInBounds_toArray, List.set_cons_zero, List.set_cons_succ])
            (refine takeL (i := 3) (v := ?_) rfl (by kernel_rfl) (by decide +kernel) (by decide +kernel) (fun _ _ _ h => h) (Or.inl ⟨by rfl, ?_⟩) (by assumption) ?_; rotate_left; (focus (intro w9 hS9; (try dsimp only at hS9); go_simp; (try with_reducible rfl); done)))
            (try simp only [Act.put, List.setIfInBounds_toArray, List.set_cons_zero, List.set_cons_succ])
            (refine takeL (i := 4) (v := ?_) rfl (by kernel_rfl) (by decide +kernel) (by decide +kernel) (fun _ _ _ h => h) (Or.inl ⟨by rfl, ?_⟩) (by assumption) ?_; rotate_left; (focus (intro w9 hS9; (try dsimp only at hS9); go_simp; (try with_reducible rfl); done)))
            (try simp only [Act.put, List.setIfInBounds_toArray, List.set_cons_zero, List.set_cons_succ])
            (refine takeC (i := 5) (v := .int .i64 v1) rfl (by kernel_rfl) (by decide +kernel) (by decide +kernel) (fun _ _ _ h => h) ⟨by rfl, fun w9 hS9 => ⟨25, #[.string ⟨y1.toArray⟩], by go_simp, HV1.out w9⟩⟩ (by assumption) ?_)
            (try simp only [Act.put, List.setIfInBounds_toArray, List.set_cons_zero, List.set_cons_succ])
            (refine takeL (i := 6) (v := ?_) rfl (by kernel_rfl) (by decide +kernel) (by decide +kernel) (fun _ _ _ h => h) (Or.inl ⟨by rfl, ?_⟩) (by assumption) ?_; rotate_left; (focus (intro w9 hS9; (try dsimp only at hS9); go_simp; (try with_reducible rfl); done)))
            (try simp only [Act.put, List.setIfInBounds_toArray, List.set_cons_zero, List.set_cons_succ])
            (refine takeL (i := 7) (v := ?_) rfl (by kernel_rfl) (by decide +kernel) (by decide +kernel) (fun _ _ _ h => h) (Or.inl ⟨by rfl, ?_⟩) (by assumption) ?_; rotate_left; (focus (intro w9 hS9; (try dsimp only at hS9); go_simp; (try with_reducible rfl); done)))
            (try simp only [Act.put, List.setIfInBounds_toArray, List.set_cons_zero, List.set_cons_succ])
            (refine takeL (i := 8) (v := ?_) rfl (by kernel_rfl) (by decide +kernel) (by decide +kernel) (fun _ _ _ h => h) (Or.inl ⟨by rfl, ?_⟩) (by assumption) ?_; rotate_left; (focus (intro w9 hS9; (try dsimp only at hS9); go_simp; (try with_reducible rfl); done)))
            (try simp only [Act.put, List.setIfInBounds_toArray, List.set_cons_zero, List.set_cons_succ])
            (refine takeC (i := 9) (v := .int .i64 v2) rfl (by kernel_rfl) (by decide +kernel) (by decide +kernel) (fun _ _ _ h => h) ⟨by rfl, fun w9 hS9 => ⟨25, #[.string ⟨y2.toArray⟩], by go_simp, HV2.out w9⟩⟩ (by assumption) ?_)
            (try simp only [Act.put, List.setIfInBounds_toArray, List.set_cons_zero, List.set_cons_succ])
            (refine takeL (i := 10) (v := ?_) rfl (by kernel_rfl) (by decide +kernel) (by decide +kernel) (fun _ _ _ h => h) (Or.inl ⟨by rfl, ?_⟩) (by assumption) ?_; rotate_left; (focus (intro w9 hS9; (try dsimp only at hS9); go_simp; (try with_reducible rfl); done)))
            (try simp only [Act.put, List.setIfInBounds_toArray, List.set_cons_zero, List.set_cons_succ])
            (refine takeL (i := 11) (v := ?_) rfl (by kernel_rfl) (by decide +kernel) (by decide +kernel) (fun _ _ _ h => h) (Or.inl ⟨by rfl, ?_⟩) (by assumption) ?_; rotate_left; (focus (intro w9 hS9; (try dsimp only at hS9); go_simp; (try with_reducible rfl); done)))
            (try simp only [Act.put, List.setIfInBounds_toArray, List.set_cons_zero, List.set_cons_succ])
            (refine takeL (i := 12) (v := ?_) rfl (by kernel_rfl) (by decide +kernel) (by decide +kernel) (fun _ _ _ h => h) (Or.inl ⟨by rfl, ?_⟩) (by assumption) ?_; rotate_left; (focus (intro w9 hS9; (try dsimp only at hS9); go_simp; (try with_reducible rfl); done)))
            (try simp only [Act.put, List.setIfInBounds_toArray, List.set_cons_zero, List.set_cons_succ])
            (refine takeC (i := 13) (v := .int .i64 v3) rfl (by kernel_rfl) (by decide +kernel) (by decide +kernel) (fun _ _ _ h => h) ⟨by rfl, fun w9 hS9 => ⟨25, #[.string ⟨y3.toArray⟩], by go_simp, HV3.out w9⟩⟩ (by assumption) ?_)
            (try simp only [Act.put, List.setIfInBounds_toArray, List.set_cons_zero, List.set_cons_succ])
            (refine takeL (i := 14) (v := ?_) rfl (by kernel_rfl) (by decide +kernel) (by decide +kernel) (fun _ _ _ h => h) (Or.inl ⟨by rfl, ?_⟩) (by assumption) ?_; rotate_left; (focus (intro w9 hS9; (try dsimp only at hS9); go_simp; (try with_reducible rfl); done)))
            (try simp only [Act.put, List.setIfInBounds_toArray, List.set_cons_zero, List.set_cons_succ])
            (refine takeL (i := 15) (v := ?_) rfl (by kernel_rfl) (by decide +kernel) (by decide +kernel) (fun _ _ _ h => h) (Or.inl ⟨by rfl, ?_⟩) (by assumption) ?_; rotate_left; (focus (intro w9 hS9; (try dsimp only at hS9); go_simp; (try with_reducible rfl); done)))
            (try simp only [Act.put, List.setIfInBounds_toArray, List.set_cons_zero, List.set_cons_succ])
            (refine takeL (i := 16) (v := ?_) rfl (by kernel_rfl) (by decide +kernel) (by decide +kernel) (fun _ _ _ h => h) (Or.inl ⟨by rfl, ?_⟩) (by assumption) ?_; rotate_left; (focus (intro w9 hS9; (try dsimp only at hS9); go_simp; (try with_reducible rfl); done)))
            (try simp only [Act.put, List.setIfInBounds_toArray, List.set_cons_zero, List.set_cons_succ])
            (refine takeC (i := 17) (v := .int .i64 v4) rfl (by kernel_rfl) (by decide +kernel) (by decide +kernel) (fun _ _ _ h => h) ⟨by rfl, fun w9 hS9 => ⟨25, #[.string ⟨y4.toArray⟩], by go_simp, HV4.out w9⟩⟩ (by assumption) ?_)
            (try simp only [Act.put, List.setIfInBounds_toArray, List.set_cons_zero, List.set_cons_succ])
            (refine takeL (i := 18) (v := ?_) rfl (by kernel_rfl) (by decide +kernel) (by decide +kernel) (fun _ _ _ h => h) (Or.inl ⟨by rfl, ?_⟩) (by assumption) ?_; rotate_left; (focus (intro w9 hS9; (try dsimp only at hS9); go_simp; (try with_reducible rfl); done)))
            (try simp only [Act.put, List.setIfInBounds_toArray, List.set_cons_zero, List.set_cons_succ])
            (refine takeL (i := 19) (v := ?_) rfl (by kernel_rfl) (by decide +kernel) (by decide +kernel) (fun _ _ _ h => h) (Or.inl ⟨by rfl, ?_⟩) (by assumption) ?_; rotate_left; (focus (intro w9 hS9; (try dsimp only at hS9); go_simp; (try with_reducible rfl); done)))
            (try simp only [Act.put, List.setIfInBounds_toArray, List.set_cons_zero, List.set_cons_succ])
            (refine takeL (i := 20) (v := ?_) rfl (by kernel_rfl) (by decide +kernel) (by decide +kernel) (fun _ _ _ h => h) (Or.inl ⟨by rfl, ?_⟩) (by assumption) ?_; rotate_left; (focus (intro w9 hS9; (try dsimp only at hS9); go_simp; (try with_reducible rfl); done)))
            (try simp only [Act.put, List.setIfInBounds_toArray, List.set_cons_zero, List.set_cons_succ])
            (refine takeL (i := 21) (v := ?_) rfl (by kernel_rfl) (by decide +kernel) (by decide +kernel) (fun _ _ _ h => h) (Or.inl ⟨by rfl, ?_⟩) (by assumption) ?_; rotate_left; (focus (intro w9 hS9; (try dsimp only at hS9); go_simp; (try with_reducible rfl); done)))
            (try simp only [Act.put, List.setIfInBounds_toArray, List.set_cons_zero, List.set_cons_succ])
            (refine takeC (i := 22) (v := .int .i64 v5) rfl (by kernel_rfl) (by decide +kernel) (by decide +kernel) (fun _ _ _ h => h) ⟨by rfl, fun w9 hS9 => ⟨25, #[.string ⟨y5.toArray⟩], by go_simp, HV5.out w9⟩⟩ (by assumption) ?_)
            (try simp only [Act.put, List.setIfInBounds_toArray, List.set_cons_zero, List.set_cons_succ])
            (refine takeL (i := 23) (v := ?_) rfl (by kernel_rfl) (by decide +kernel) (by decide +kernel) (fun _ _ _ h => h) (Or.inl ⟨by rfl, ?_⟩) (by assumption) ?_; rotate_left; (focus (intro w9 hS9; (try dsimp only at hS9); go_simp; (try with_reducible rfl); done)))
            (try simp only [Act.put, List.setIfInBounds_toArray, List.set_cons_zero, List.set_cons_succ])
            (refine takeL (i := 24) (v := ?_) rfl (by kernel_rfl) (by decide +kernel) (by decide +kernel) (fun _ _ _ h => h) (Or.inl ⟨by rfl, ?_⟩) (by assumption) ?_; rotate_left; (focus (intro w9 hS9; (try dsimp only at hS9); go_simp; (try with_reducible rfl); done)))
            (try simp only [Act.put, List.setIfInBounds_toArray, List.set_cons_zero, List.set_cons_succ])
            (refine takeL (i := 25) (v := ?_) rfl (by kernel_rfl) (by decide +kernel) (by decide +kernel) (fun _ _ _ h => h) (Or.inl ⟨by rfl, ?_⟩) (by assumption) ?_; rotate_left; (focus (intro w9 hS9; (try dsimp only at hS9); go_simp; (try with_reducible rfl); done)))
            (try simp only [Act.put, List.setIfInBounds_toArray, List.set_cons_zero, List.set_cons_succ])
            (refine takeC (i := 26) (v := .int .i64 v6) rfl (by kernel_rfl) (by decide +kernel) (by decide +kernel) (fun _ _ _ h => h) ⟨by rfl, fun w9 hS9 => ⟨25, #[.string ⟨y6.toArray⟩], by go_simp, HV6.out w9⟩⟩ (by assumption) ?_)
            (try simp only [Act.put, List.setIfInBounds_toArray, List.set_cons_zero, List.set_cons_succ])
            (refine takeL (i := 27) (v := ?_) rfl (by kernel_rfl) (by decide +kernel) (by decide +kernel) (fun _ _ _ h => h) (Or.inl ⟨by rfl, ?_⟩) (by assumption) ?_; rotate_left; (focus (intro w9 hS9; (try dsimp only at hS9); go_simp; (try with_reducible rfl); done)))
            (try simp only [Act.put, List.setIfInBounds_toArray, List.set_cons_zero, List.set_cons_succ])
            (refine takeL (i := 28) (v := ?_) rfl (by kernel_rfl) (by decide +kernel) (by decide +kernel) (fun _ _ _ h => h) (Or.inl ⟨by rfl, ?_⟩) (by assumption) ?_; rotate_left; (focus (intro w9 hS9; (try dsimp only at hS9); go_simp; (try with_reducible rfl); done)))
            (try simp only [Act.put, List.setIfInBounds_toArray, List.set_cons_zero, List.set_cons_succ])
            (refine takeL (i := 29) (v := ?_) rfl (by kernel_rfl) (by decide +kernel) (by decide +kernel) (fun _ _ _ h => h) (Or.inl ⟨by rfl, ?_⟩) (by assumption) ?_; rotate_left; (focus (intro w9 hS9; (try dsimp only at hS9); go_simp; (try with_reducible rfl); done)))
            (try simp only [Act.put, List.setIfInBounds_toArray, List.set_cons_zero, List.set_cons_succ])
            (refine takeC (i := 30) (v := .int .i64 v7) rfl (by kernel_rfl) (by decide +kernel) (by decide +kernel) (fun _ _ _ h => h) ⟨by rfl, fun w9 hS9 => ⟨25, #[.string ⟨y7.toArray⟩], by go_simp, HV7.out w9⟩⟩ (by assumption) ?_)
            (try simp only [Act.put, List.setIfInBounds_toArray, List.set_cons_zero, List.set_cons_succ])
            (refine takeL (i := 31) (v := ?_) rfl (by kernel_rfl) (by decide +kernel) (by decide +kernel) (fun _ _ _ h => h) (Or.inl ⟨by rfl, ?_⟩) (by assumption) ?_; rotate_left; (focus (intro w9 hS9; (try dsimp only at hS9); go_simp; (try with_reducible rfl); done)))
            (try simp only [Act.put, List.setIfInBounds_toArray, List.set_cons_zero, List.set_cons_succ])
            refine wpAnyH_ready (rs := [1, 32]) (by decide +kernel) (by simp) ?_
            refine consL rfl (fun K hK => ?_) ?_
            · (first | fail | (go_simp; first | done | (first | fail)) | go_simp)
              (first | (with_reducible refine hK.out _ _ ?_ ?_) | (go_wp2_with fail; refine hK.out _ _ ?_ ?_))
              (focus (exact hHeld))
              clear hK K hHeld
              intro hHeld
              (try simp only [Act.put, List.setIfInBounds_toArray, List.set_cons_zero, List.set_cons_succ])
              refine wpAnyH_ready (rs := [32]) (by decide +kernel) (by simp) ?_
              refine consL rfl (fun K hK => ?_) ?_
              · (first | fail | (go_simp; first | done | (first | fail)) | go_simp)
                (first | (with_reducible refine hK.out _ _ ?_ ?_) | (go_wp2_with fail; refine hK.out _ _ ?_ ?_))
                (focus (exact w7_alloc _ hHeld))
                clear hK K hHeld
                intro hHeld
                (try simp only [Act.put, List.setIfInBounds_toArray, List.set_cons_zero, List.set_cons_succ])
                refine wpAnyH_ready (rs := [33]) (by decide +kernel) (by simp) ?_
                refine consL rfl (fun K hK => ?_) ?_
                · (first | (refine step_append_lies _ rfl _ _ 23 rfl (w1.heap.size + 1) 45 i0 (.agg #[.int .i64 0, .int .i64 0, .int .i64 0, .int .i64 0, .int .i64 0, .int .i64 0, .int .i64 0]) 7 56 Tryd.underlying23 hi hz0 hz1 hz2 rfl (by decide) _ _ _ rfl (HRT.out.hl.alloc _) ⟨W4.heap.size, 0, none⟩ 1 1 (lkC ⟨v1, v2, v3, v4, v5, v6, v7⟩) rfl rfl (lkc_cells _ ⟨v1, v2, v3, v4, v5, v6, v7⟩ _) (lkc_one _) (by decide) (by have := HTL.out; unfold maxLen; omega) (by have := HTL.out; omega) (Nat.le_trans HRT.out.sz (by simp)) _ rfl ?_; intro g cap W5 ap1 ap2 ap3 ap4; have HRA := Lib.hid (HRT.out.up (below_box W4 (.cells #[.int .i64 v1, .int .i64 v2, .int .i64 v3, .int .i64 v4, .int .i64 v5, .int .i64 v6, .int .i64 v7] 45))); have m2 : W5.cell? ⟨w1.heap.size, 2, none⟩ = some ls := (ap2.cell_far ⟨w1.heap.size, 2, none⟩ (lt_of_heap HRA.out.st) (fun e => own_tb HRA.out.hl HRA.out.lt e.symm)).trans HRA.out.cells.2.2.1; have m3 : W5.frozen? ⟨w1.heap.size, 2, none⟩ = false := (ap2.frozen_far ⟨w1.heap.size, 2, none⟩ (lt_of_heap HRA.out.st) (fun e => own_tb HRA.out.hl HRA.out.lt e.symm)).trans (HRA.out.cells.2.2.2 2)) | (go_simp; first | done | (first | (refine step_append_lies _ rfl _ _ 23 rfl (w1.heap.size + 1) 45 i0 (.agg #[.int .i64 0, .int .i64 0, .int .i64 0, .int .i64 0, .int .i64 0, .int .i64 0, .int .i64 0]) 7 56 Tryd.underlying23 hi hz0 hz1 hz2 rfl (by decide) _ _ _ rfl (HRT.out.hl.alloc _) ⟨W4.heap.size, 0, none⟩ 1 1 (lkC ⟨v1, v2, v3, v4, v5, v6, v7⟩) rfl rfl (lkc_cells _ ⟨v1, v2, v3, v4, v5, v6, v7⟩ _) (lkc_one _) (by decide) (by have := HTL.out; unfold maxLen; omega) (by have := HTL.out; omega) (Nat.le_trans HRT.out.sz (by simp)) _ rfl ?_; intro g cap W5 ap1 ap2 ap3 ap4; have HRA := Lib.hid (HRT.out.up (below_box W4 (.cells #[.int .i64 v1, .int .i64 v2, .int .i64 v3, .int .i64 v4, .int .i64 v5, .int .i64 v6, .int .i64 v7] 45))); have m2 : W5.cell? ⟨w1.heap.size, 2, none⟩ = some ls := (ap2.cell_far ⟨w1.heap.size, 2, none⟩ (lt_of_heap HRA.out.st) (fun e => own_tb HRA.out.hl HRA.out.lt e.symm)).trans HRA.out.cells.2.2.1; have m3 : W5.frozen? ⟨w1.heap.size, 2, none⟩ = false := (ap2.frozen_far ⟨w1.heap.size, 2, none⟩ (lt_of_heap HRA.out.st) (fun e => own_tb HRA.out.hl HRA.out.lt e.symm)).trans (HRA.out.cells.2.2.2 2)))) | go_simp)
                  (first | (with_reducible refine hK.out _ _ ?_ ?_) | (go_wp2_with fail; refine hK.out _ _ ?_ ?_))
                  (focus (exact w7_grown ap2 HNL.out hHeld))
                  clear hK K hHeld
                  intro hHeld
                  (try simp only [Act.put, List.setIfInBounds_toArray, List.set_cons_zero, List.set_cons_succ])
                  (refine takeL (i := 34) (v := ?_) rfl (by kernel_rfl) (by decide +kernel) (by decide +kernel) (fun _ _ _ h => h) (Or.inl ⟨by rfl, ?_⟩) (by assumption) ?_; rotate_left; (focus (intro w9 hS9; (try dsimp only at hS9); go_simp; (try with_reducible rfl); done)))
                  (try simp only [Act.put, List.setIfInBounds_toArray, List.set_cons_zero, List.set_cons_succ])
                  refine wpAnyH_ready (rs := [35]) (by decide +kernel) (by simp) ?_
                  refine consL rfl (fun K hK => ?_) ?_
                  · (first | fail | (go_simp; first | done | (first | fail)) | go_simp)
                    (first | (with_reducible refine hK.out _ _ ?_ ?_) | (go_wp2_with fail; refine hK.out _ _ ?_ ?_))
                    (focus (exact w7_set hHeld HNB.out))
                    clear hK K hHeld
                    intro hHeld
                    (try simp only [Act.put, List.setIfInBounds_toArray, List.set_cons_zero, List.set_cons_succ])
                    refine wpAnyH_done (by decide +kernel) ?_ _
                    go_wp2_with fail
                    go_roundw
                    case rel => exact ⟨1, { t with ls := t.ls ++ [⟨v1, v2, v3, v4, v5, v6, v7⟩] }, ov, _, by omega, rfl, Lib.hid (by have := HTL.out; show (t.ls ++ [_]).length ≤ _; rw [List.length_append]; exact Nat.succ_le_succ this), Lib.hid (by have := HF2.out; rw [HS.out] at this; exact this.symm), Lib.hid ((HRT.out.up (below_box W4 _)).app _ ap1 ap2 (ap3.elim (fun h => .inl h.symm) (fun h => .inr (by rw [h]; rfl)))), Lib.hid ((HRT.out.appB HW.out ap2).setCell (Nat.le_refl _) _)⟩
                    case measure => simp [intOf]; omega
                  exact AllReadyH.nil
                exact AllReadyH.nil
              exact AllReadyH.nil
            refine consL rfl (fun K hK => ?_) ?_
            · (first | fail | (go_simp; first | done | (first | fail)) | go_simp)
              (first | (with_reducible refine hK.out _ _ ?_ ?_) | (go_wp2_with fail; refine hK.out _ _ ?_ ?_))
              (focus (exact w7_alloc _ hHeld))
              clear hK K hHeld
              intro hHeld
              (try simp only [Act.put, List.setIfInBounds_toArray, List.set_cons_zero, List.set_cons_succ])
              refine wpAnyH_ready (rs := [1]) (by decide +kernel) (by simp) ?_
              refine consL rfl (fun K hK => ?_) ?_
              · (first | fail | (go_simp; first | done | (first | fail)) | go_simp)
                (first | (with_reducible refine hK.out _ _ ?_ ?_) | (go_wp2_with fail; refine hK.out _ _ ?_ ?_))
                (focus (exact hHeld))
                clear hK K hHeld
                intro hHeld
                (try simp only [Act.put, List.setIfInBounds_toArray, List.set_cons_zero, List.set_cons_succ])
                refine wpAnyH_ready (rs := [33]) (by decide +kernel) (by simp) ?_
                refine consL rfl (fun K hK => ?_) ?_
                · (first | (refine step_append_lies _ rfl _ _ 23 rfl (w1.heap.size + 1) 45 i0 (.agg #[.int .i64 0, .int .i64 0, .int .i64 0, .int .i64 0, .int .i64 0, .int .i64 0, .int .i64 0]) 7 56 Tryd.underlying23 hi hz0 hz1 hz2 rfl (by decide) _ _ _ rfl (HRT.out.hl.alloc _) ⟨W4.heap.size, 0, none⟩ 1 1 (lkC ⟨v1, v2, v3, v4, v5, v6, v7⟩) rfl rfl (lkc_cells _ ⟨v1, v2, v3, v4, v5, v6, v7⟩ _) (lkc_one _) (by decide) (by have := HTL.out; unfold maxLen; omega) (by have := HTL.out; omega) (Nat.le_trans HRT.out.sz (by simp)) _ rfl ?_; intro g cap W5 ap1 ap2 ap3 ap4; have HRA := Lib.hid (HRT.out.up (below_box W4 (.cells #[.int .i64 v1, .int .i64 v2, .int .i64 v3, .int .i64 v4, .int .i64 v5, .int .i64 v6, .int .i64 v7] 45))); have m2 : W5.cell? ⟨w1.heap.size, 2, none⟩ = some ls := (ap2.cell_far ⟨w1.heap.size, 2, none⟩ (lt_of_heap HRA.out.st) (fun e => own_tb HRA.out.hl HRA.out.lt e.symm)).trans HRA.out.cells.2.2.1; have m3 : W5.frozen? ⟨w1.heap.size, 2, none⟩ = false := (ap2.frozen_far ⟨w1.heap.size, 2, none⟩ (lt_of_heap HRA.out.st) (fun e => own_tb HRA.out.hl HRA.out.lt e.symm)).trans (HRA.out.cells.2.2.2 2)) | (go_simp; first | done | (first | (refine step_append_lies _ rfl _ _ 23 rfl (w1.heap.size + 1) 45 i0 (.agg #[.int .i64 0, .int .i64 0, .int .i64 0, .int .i64 0, .int .i64 0, .int .i64 0, .int .i64 0]) 7 56 Tryd.underlying23 hi hz0 hz1 hz2 rfl (by decide) _ _ _ rfl (HRT.out.hl.alloc _) ⟨W4.heap.size, 0, none⟩ 1 1 (lkC ⟨v1, v2, v3, v4, v5, v6, v7⟩) rfl rfl (lkc_cells _ ⟨v1, v2, v3, v4, v5, v6, v7⟩ _) (lkc_one _) (by decide) (by have := HTL.out; unfold maxLen; omega) (by have := HTL.out; omega) (Nat.le_trans HRT.out.sz (by simp)) _ rfl ?_; intro g cap W5 ap1 ap2 ap3 ap4; have HRA := Lib.hid (HRT.out.up (below_box W4 (.cells #[.int .i64 v1, .int .i64 v2, .int .i64 v3, .int .i64 v4, .int .i64 v5, .int .i64 v6, .int .i64 v7] 45))); have m2 : W5.cell? ⟨w1.heap.size, 2, none⟩ = some ls := (ap2.cell_far ⟨w1.heap.size, 2, none⟩ (lt_of_heap HRA.out.st) (fun e => own_tb HRA.out.hl HRA.out.lt e.symm)).trans HRA.out.cells.2.2.1; have m3 : W5.frozen? ⟨w1.heap.size, 2, none⟩ = false := (ap2.frozen_far ⟨w1.heap.size, 2, none⟩ (lt_of_heap HRA.out.st) (fun e => own_tb HRA.out.hl HRA.out.lt e.symm)).trans (HRA.out.cells.2.2.2 2)))) | go_simp)
                  (first | (with_reducible refine hK.out _ _ ?_ ?_) | (go_wp2_with fail; refine hK.out _ _ ?_ ?_))
                  (focus (exact w7_grown ap2 HNL.out hHeld))
                  clear hK K hHeld
                  intro hHeld
                  (try simp only [Act.put, List.setIfInBounds_toArray, List.set_cons_zero, List.set_cons_succ])
                  (refine takeL (i := 34) (v := ?_) rfl (by kernel_rfl) (by decide +kernel) (by decide +kernel) (fun _ _ _ h => h) (Or.inl ⟨by rfl, ?_⟩) (by assumption) ?_; rotate_left; (focus (intro w9 hS9; (try dsimp only at hS9); go_simp; (try with_reducible rfl); done)))
                  (try simp only [Act.put, List.setIfInBounds_toArray, List.set_cons_zero, List.set_cons_succ])
                  refine wpAnyH_ready (rs := [35]) (by decide +kernel) (by simp) ?_
                  refine consL rfl (fun K hK => ?_) ?_
                  · (first | fail | (go_simp; first | done | (first | fail)) | go_simp)
                    (first | (with_reducible refine hK.out _ _ ?_ ?_) | (go_wp2_with fail; refine hK.out _ _ ?_ ?_))
                    (focus (exact w7_set hHeld HNB.out))
                    clear hK K hHeld
                    intro hHeld
                    (try simp only [Act.put, List.setIfInBounds_toArray, List.set_cons_zero, List.set_cons_succ])
                    refine wpAnyH_done (by decide +kernel) ?_ _
                    go_wp2_with fail
                    go_roundw
                    case rel => exact ⟨1, { t with ls := t.ls ++ [⟨v1, v2, v3, v4, v5, v6, v7⟩] }, ov, _, by omega, rfl, Lib.hid (by have := HTL.out; show (t.ls ++ [_]).length ≤ _; rw [List.length_append]; exact Nat.succ_le_succ this), Lib.hid (by have := HF2.out; rw [HS.out] at this; exact this.symm), Lib.hid ((HRT.out.up (below_box W4 _)).app _ ap1 ap2 (ap3.elim (fun h => .inl h.symm) (fun h => .inr (by rw [h]; rfl)))), Lib.hid ((HRT.out.appB HW.out ap2).setCell (Nat.le_refl _) _)⟩
                    case measure => simp [intOf]; omega
                  exact AllReadyH.nil
                exact AllReadyH.nil
              exact AllReadyH.nil
            exact AllReadyH.nil
          · have ck : ((k : Int) == 0) = false := by rw [beq_eq_false_iff_ne]; omega
            go_upto_region 16 with (go_at_call 24; (with_reducible refine (HC3.out _).mono ?_); rintro e w2 ⟨Aw, cw, rfl, hw1, hw2, hrw, hb, hfr⟩; have HNL0 := Lib.hid (fun g (h : ls.ownBlock = some g) => (HRT.out.hl.lt g h).2); have HT1 := Lib.hid (lt_of_heap HRT.out.st); replace HRT := Lib.hid (HRT.out.up hb); replace HW := Lib.hid (below_next HW.out hb); have HCW := Lib.hid (And.intro hw1 hw2); obtain ⟨bw, ow, rfl, q1⟩ := strs_atT hrw HY1.out; obtain ⟨bw', ow', e', q2⟩ := strs_atT hrw HY2.out; injection e' with e'; injection e' with e1 e2; subst e1 e2; obtain ⟨bw', ow', e', q3⟩ := strs_atT hrw HY3.out; injection e' with e'; injection e' with e1 e2; subst e1 e2; obtain ⟨bw', ow', e', q4⟩ := strs_atT hrw HY4.out; injection e' with e'; injection e' with e1 e2; subst e1 e2; obtain ⟨bw', ow', e', q5⟩ := strs_atT hrw HY5.out; injection e' with e'; injection e' with e1 e2; subst e1 e2; obtain ⟨bw', ow', e', q6⟩ := strs_atT hrw HY6.out; injection e' with e'; injection e' with e1 e2; subst e1 e2; obtain ⟨bw', ow', e', q7⟩ := strs_atT hrw HY7.out; injection e' with e'; injection e' with e1 e2; subst e1 e2; have hfr2 := hfr _ rfl; have HNL : Hid (ls.ownBlock ≠ some bw) := Lib.hid (fun h => by have h8 := HNL0.out _ h; have h7 : _ ≤ bw := hfr2; omega); have HNB : Hid (w1.heap.size ≠ bw) := Lib.hid (fun h => by have h8 := HT1.out; have h7 : _ ≤ bw := hfr2; omega); obtain ⟨b0, b1, b2, bf⟩ := HRT.out.cells; clear hb q0 hrw hw1 hw2 hfr hfr2 HNL0 HT1)
            replace HRT := Lib.hid (HRT.out.up (below_drw1 w2))
            replace HW := Lib.hid (below_next HW.out (below_drw1 w2))
            clear b0 b1 b2 bf
            obtain ⟨W4, hW4⟩ : ∃ W, W = w2.drew := ⟨_, rfl⟩
            rw [← hW4] at HRT HW
            refine wp_region_held_drew (S := (fun w' => w'.cell? ⟨bw, ow + 1, none⟩ = some (.string ⟨y1.toArray⟩) ∧ w'.cell? ⟨bw, ow + 2, none⟩ = some (.string ⟨y2.toArray⟩) ∧ w'.cell? ⟨bw, ow + 3, none⟩ = some (.string ⟨y3.toArray⟩) ∧ w'.cell? ⟨bw, ow + 4, none⟩ = some (.string ⟨y4.toArray⟩) ∧ w'.cell? ⟨bw, ow + 5, none⟩ = some (.string ⟨y5.toArray⟩) ∧ w'.cell? ⟨bw, ow + 6, none⟩ = some (.string ⟨y6.toArray⟩) ∧ w'.cell? ⟨bw, ow + 7, none⟩ = some (.string ⟨y7.toArray⟩))) (by kernel_rfl) ?_ (fun hHeld => ?_)
            · exact ⟨q1, q2, q3, q4, q5, q6, q7⟩
            rw [← hW4] at hHeld ⊢
            clear hW4 q1 q2 q3 q4 q5 q6 q7
            obtain ⟨b0, b1, b2, bf⟩ := HRT.out.cells
            have ht4 : w1.heap.size < W4.heap.size := lt_of_heap HRT.out.st
            have ht5 : w1.heap.size ≠ W4.heap.size := Nat.ne_of_lt ht4
            have ht6 : W4.heap.size ≠ w1.heap.size := Nat.ne_of_gt ht4
            (refine takeL (i := 0) (v := ?_) rfl (by kernel_rfl) (by decide +kernel) (by decide +kernel) (fun _ _ _ h => h) (Or.inl ⟨by rfl, ?_⟩) (by assumption) ?_; rotate_left; (focus (intro w9 hS9; (try dsimp only at hS9); go_simp; (try with_reducible rfl); done)))
            (try simp only [Act.put, List.setIfInBounds_toArray, List.set_cons_zero, List.set_cons_succ])
            (refine takeL (i := 2) (v := ?_) rfl (by kernel_rfl) (by decide +kernel) (by decide +kernel) (fun _ _ _ h => h) (Or.inl ⟨by rfl, ?_⟩) (by assumption) ?_; rotate_left; (focus (intro w9 hS9; (try dsimp only at hS9); go_simp; (try with_reducible rfl); done)))
            (try simp only [Act.put, List.setIfInBounds_toArray, List.set_cons_zero, List.set_cons_succ])
            (refine takeL (i := 3) (v := ?_) rfl (by kernel_rfl) (by decide +kernel) (by decide +kernel) (fun _ _ _ h => h) (Or.inl ⟨by rfl, ?_⟩) (by assumption) ?_; rotate_left; (focus (intro w9 hS9; (try dsimp only at hS9); go_simp; (try with_reducible rfl); done)))
            (try simp only [Act.put, List.setIfInBounds_toArray, List.set_cons_zero, List.set_cons_succ])
            (refine takeL (i := 4) (v := ?_) rfl (by kernel_rfl) (by decide +kernel) (by decide +kernel) (fun _ _ _ h => h) (Or.inl ⟨by rfl, ?_⟩) (by assumption) ?_; rotate_left; (focus (intro w9 hS9; (try dsimp only at hS9); go_simp; (try with_reducible rfl); done)))
            (try simp only [Act.put, List.setIfInBounds_toArray, List.set_cons_zero, List.set_cons_succ])
            (refine takeC (i := 5) (v := .int .i64 v1) rfl (by kernel_rfl) (by decide +kernel) (by decide +kernel) (fun _ _ _ h => h) ⟨by rfl, fun w9 hS9 => ⟨25, #[.string ⟨y1.toArray⟩], by go_simp, HV1.out w9⟩⟩ (by assumption) ?_)
            (try simp only [Act.put, List.setIfInBounds_toArray, List.set_cons_zero, List.set_cons_succ])
            (refine takeL (i := 6) (v := ?_) rfl (by kernel_rfl) (by decide +kernel) (by decide +kernel) (fun _ _ _ h => h) (Or.inl ⟨by rfl, ?_⟩) (by assumption) ?_; rotate_left; (focus (intro w9 hS9; (try dsimp only at hS9); go_simp; (try with_reducible rfl); done)))
            (try simp only [Act.put, List.setIfInBounds_toArray, List.set_cons_zero, List.set_cons_succ])
            (refine takeL (i := 7) (v := ?_) rfl (by kernel_rfl) (by decide +kernel) (by decide +kernel) (fun _ _ _ h => h) (Or.inl ⟨by rfl, ?_⟩) (by assumption) ?_; rotate_left; (focus (intro w9 hS9; (try dsimp only at hS9); go_simp; (try with_reducible rfl); done)))
            (try simp only [Act.put, List.setIfInBounds_toArray, List.set_cons_zero, List.set_cons_succ])
            (refine takeL (i := 8) (v := ?_) rfl (by kernel_rfl) (by decide +kernel) (by decide +kernel) (fun _ _ _ h => h) (Or.inl ⟨by rfl, ?_⟩) (by assumption) ?_; rotate_left; (focus (intro w9 hS9; (try dsimp only at hS9); go_simp; (try with_reducible rfl); done)))
            (try simp only [Act.put, List.setIfInBounds_toArray, List.set_cons_zero, List.set_cons_succ])
            (refine takeC (i := 9) (v := .int .i64 v2) rfl (by kernel_rfl) (by decide +kernel) (by decide +kernel) (fun _ _ _ h => h) ⟨by rfl, fun w9 hS9 => ⟨25, #[.string ⟨y2.toArray⟩], by go_simp, HV2.out w9⟩⟩ (by assumption) ?_)
            (try simp only [Act.put, List.setIfInBounds_toArray, List.set_cons_zero, List.set_cons_succ])
            (refine takeL (i := 10) (v := ?_) rfl (by kernel_rfl) (by decide +kernel) (by decide +kernel) (fun _ _ _ h => h) (Or.inl ⟨by rfl, ?_⟩) (by assumption) ?_; rotate_left; (focus (intro w9 hS9; (try dsimp only at hS9); go_simp; (try with_reducible rfl); done)))
            (try simp only [Act.put, List.setIfInBounds_toArray, List.set_cons_zero, List.set_cons_succ])
            (refine takeL (i := 11) (v := ?_) rfl (by kernel_rfl) (by decide +kernel) (by decide +kernel) (fun _ _ _ h => h) (Or.inl ⟨by rfl, ?_⟩) (by assumption) ?_; rotate_left; (focus (intro w9 hS9; (try dsimp only at hS9); go_simp; (try with_reducible rfl); done)))
            (try simp only [Act.put, List.setIfInBounds_toArray, List.set_cons_zero, List.set_cons_succ])
            (refine takeL (i := 12) (v := ?_) rfl (by kernel_rfl) (by decide +kernel) (by decide +kernel) (fun _ _ _ h => h) (Or.inl ⟨by rfl, ?_⟩) (by assumption) ?_; rotate_left; (focus (intro w9 hS9; (try dsimp only at hS9); go_simp; (try with_reducible rfl); done)))
            (try simp only [Act.put, List.setIfInBounds_toArray, List.set_cons_zero, List.set_cons_succ])
            (refine takeC (i := 13) (v := .int .i64 v3) rfl (by kernel_rfl) (by decide +kernel) (by decide +kernel) (fun _ _ _ h => h) ⟨by rfl, fun w9 hS9 => ⟨25, #[.string ⟨y3.toArray⟩], by go_simp, HV3.out w9⟩⟩ (by assumption) ?_)
            (try simp only [Act.put, List.setIfInBounds_toArray, List.set_cons_zero, List.set_cons_succ])
            (refine takeL (i := 14) (v := ?_) rfl (by kernel_rfl) (by decide +kernel) (by decide +kernel) (fun _ _ _ h => h) (Or.inl ⟨by rfl, ?_⟩) (by assumption) ?_; rotate_left; (focus (intro w9 hS9; (try dsimp only at hS9); go_simp; (try with_reducible rfl); done)))
            (try simp only [Act.put, List.setIfInBounds_toArray, List.set_cons_zero, List.set_cons_succ])
            (refine takeL (i := 15) (v := ?_) rfl (by kernel_rfl) (by decide +kernel) (by decide +kernel) (fun _ _ _ h => h) (Or.inl ⟨by rfl, ?_⟩) (by assumption) ?_; rotate_left; (focus (intro w9 hS9; (try dsimp only at hS9); go_simp; (try with_reducible rfl); done)))
            (try simp only [Act.put, List.setIfInBounds_toArray, List.set_cons_zero, List.set_cons_succ])
            (refine takeL (i := 16) (v := ?_) rfl (by kernel_rfl) (by decide +kernel) (by decide +kernel) (fun _ _ _ h => h) (Or.inl ⟨by rfl, ?_⟩) (by assumption) ?_; rotate_left; (focus (intro w9 hS9; (try dsimp only at hS9); go_simp; (try with_reducible rfl); done)))
            (try simp only [Act.put, List.setIfInBounds_toArray, List.set_cons_zero, List.set_cons_succ])
            (refine takeC (i := 17) (v := .int .i64 v4) rfl (by kernel_rfl) (by decide +kernel) (by decide +kernel) (fun _ _ _ h => h) ⟨by rfl, fun w9 hS9 => ⟨25, #[.string ⟨y4.toArray⟩], by go_simp, HV4.out w9⟩⟩ (by assumption) ?_)
            (try simp only [Act.put, List.setIfInBounds_toArray, List.set_cons_zero, List.set_cons_succ])
            (refine takeL (i := 18) (v := ?_) rfl (by kernel_rfl) (by decide +kernel) (by decide +kernel) (fun _ _ _ h => h) (Or.inl ⟨by rfl, ?_⟩) (by assumption) ?_; rotate_left; (focus (intro w9 hS9; (try dsimp only at hS9); go_simp; (try with_reducible rfl); done)))
            (try simp only [Act.put, List.setIfInBounds_toArray, List.set_cons_zero, List.set_cons_succ])
            (refine takeL (i := 19) (v := ?_) rfl (by kernel_rfl) (by decide +kernel) (by decide +kernel) (fun _ _ _ h => h) (Or.inl ⟨by rfl, ?_⟩) (by assumption) ?_; rotate_left; (focus (intro w9 hS9; (try dsimp only at hS9); go_simp; (try with_reducible rfl); done)))
            (try simp only [Act.put, List.setIfInBounds_toArray, List.set_cons_zero, List.set_cons_succ])
            (refine takeL (i := 20) (v := ?_) rfl (by kernel_rfl) (by decide +kernel) (by decide +kernel) (fun _ _ _ h => h) (Or.inl ⟨by rfl, ?_⟩) (by assumption) ?_; rotate_left; (focus (intro w9 hS9; (try dsimp only at hS9); go_simp; (try with_reducible rfl); done)))
            (try simp only [Act.put, List.setIfInBounds_toArray, List.set_cons_zero, List.set_cons_succ])
            (refine takeL (i := 21) (v := ?_) rfl (by kernel_rfl) (by decide +kernel) (by decide +kernel) (fun _ _ _ h => h) (Or.inl ⟨by rfl, ?_⟩) (by assumption) ?_; rotate_left; (focus (intro w9 hS9; (try dsimp only at hS9); go_simp; (try with_reducible rfl); done)))
            (try simp only [Act.put, List.setIfInBounds_toArray, List.set_cons_zero, List.set_cons_succ])
            (refine takeC (i := 22) (v := .int .i64 v5) rfl (by kernel_rfl) (by decide +kernel) (by decide +kernel) (fun _ _ _ h => h) ⟨by rfl, fun w9 hS9 => ⟨25, #[.string ⟨y5.toArray⟩], by go_simp, HV5.out w9⟩⟩ (by assumption) ?_)
            (try simp only [Act.put, List.setIfInBounds_toArray, List.set_cons_zero, List.set_cons_succ])
            (refine takeL (i := 23) (v := ?_) rfl (by kernel_rfl) (by decide +kernel) (by decide +kernel) (fun _ _ _ h => h) (Or.inl ⟨by rfl, ?_⟩) (by assumption) ?_; rotate_left; (focus (intro w9 hS9; (try dsimp only at hS9); go_simp; (try with_reducible rfl); done)))
            (try simp only [Act.put, List.setIfInBounds_toArray, List.set_cons_zero, List.set_cons_succ])
            (refine takeL (i := 24) (v := ?_) rfl (by kernel_rfl) (by decide +kernel) (by decide +kernel) (fun _ _ _ h => h) (Or.inl ⟨by rfl, ?_⟩) (by assumption) ?_; rotate_left; (focus (intro w9 hS9; (try dsimp only at hS9); go_simp; (try with_reducible rfl); done)))
            (try simp only [Act.put, List.setIfInBounds_toArray, List.set_cons_zero, List.set_cons_succ])
            (refine takeL (i := 25) (v := ?_) rfl (by kernel_rfl) (by decide +kernel) (by decide +kernel) (fun _ _ _ h => h) (Or.inl ⟨by rfl, ?_⟩) (by assumption) ?_; rotate_left; (focus (intro w9 hS9; (try dsimp only at hS9); go_simp; (try with_reducible rfl); done)))
            (try simp only [Act.put, List.setIfInBounds_toArray, List.set_cons_zero, List.set_cons_succ])
            (refine takeC (i := 26) (v := .int .i64 v6) rfl (by kernel_rfl) (by decide +kernel) (by decide +kernel) (fun _ _ _ h => h) ⟨by rfl, fun w9 hS9 => ⟨25, #[.string ⟨y6.toArray⟩], by go_simp, HV6.out w9⟩⟩ (by assumption) ?_)
            (try simp only [Act.put, List.setIfInBounds_toArray, List.set_cons_zero, List.set_cons_succ])
            (refine takeL (i := 27) (v := ?_) rfl (by kernel_rfl) (by decide +kernel) (by decide +kernel) (fun _ _ _ h => h) (Or.inl ⟨by rfl, ?_⟩) (by assumption) ?_; rotate_left; (focus (intro w9 hS9; (try dsimp only at hS9); go_simp; (try with_reducible rfl); done)))
            (try simp only [Act.put, List.setIfInBounds_toArray, List.set_cons_zero, List.set_cons_succ])
            (refine takeL (i := 28) (v := ?_) rfl (by kernel_rfl) (by decide +kernel) (by decide +kernel) (fun _ _ _ h => h) (Or.inl ⟨by rfl, ?_⟩) (by assumption) ?_; rotate_left; (focus (intro w9 hS9; (try dsimp only at hS9); go_simp; (try with_reducible rfl); done)))
            (try simp only [Act.put, List.setIfInBounds_toArray, List.set_cons_zero, List.set_cons_succ])
            (refine takeL (i := 29) (v := ?_) rfl (by kernel_rfl) (by decide +kernel) (by decide +kernel) (fun _ _ _ h => h) (Or.inl ⟨by rfl, ?_⟩) (by assumption) ?_; rotate_left; (focus (intro w9 hS9; (try dsimp only at hS9); go_simp; (try with_reducible rfl); done)))
            (try simp only [Act.put, List.setIfInBounds_toArray, List.set_cons_zero, List.set_cons_succ])
            (refine takeC (i := 30) (v := .int .i64 v7) rfl (by kernel_rfl) (by decide +kernel) (by decide +kernel) (fun _ _ _ h => h) ⟨by rfl, fun w9 hS9 => ⟨25, #[.string ⟨y7.toArray⟩], by go_simp, HV7.out w9⟩⟩ (by assumption) ?_)
            (try simp only [Act.put, List.setIfInBounds_toArray, List.set_cons_zero, List.set_cons_succ])
            (refine takeL (i := 31) (v := ?_) rfl (by kernel_rfl) (by decide +kernel) (by decide +kernel) (fun _ _ _ h => h) (Or.inl ⟨by rfl, ?_⟩) (by assumption) ?_; rotate_left; (focus (intro w9 hS9; (try dsimp only at hS9); go_simp; (try with_reducible rfl); done)))
            (try simp only [Act.put, List.setIfInBounds_toArray, List.set_cons_zero, List.set_cons_succ])
            refine wpAnyH_ready (rs := [1, 32]) (by decide +kernel) (by simp) ?_
            refine consL rfl (fun K hK => ?_) ?_
            · (first | fail | (go_simp; first | done | (first | fail)) | go_simp)
              (first | (with_reducible refine hK.out _ _ ?_ ?_) | (go_wp2_with fail; refine hK.out _ _ ?_ ?_))
              (focus (exact hHeld))
              clear hK K hHeld
              intro hHeld
              (try simp only [Act.put, List.setIfInBounds_toArray, List.set_cons_zero, List.set_cons_succ])
              refine wpAnyH_ready (rs := [32]) (by decide +kernel) (by simp) ?_
              refine consL rfl (fun K hK => ?_) ?_
              · (first | fail | (go_simp; first | done | (first | fail)) | go_simp)
                (first | (with_reducible refine hK.out _ _ ?_ ?_) | (go_wp2_with fail; refine hK.out _ _ ?_ ?_))
                (focus (exact w7_alloc _ hHeld))
                clear hK K hHeld
                intro hHeld
                (try simp only [Act.put, List.setIfInBounds_toArray, List.set_cons_zero, List.set_cons_succ])
                refine wpAnyH_ready (rs := [33]) (by decide +kernel) (by simp) ?_
                refine consL rfl (fun K hK => ?_) ?_
                · (first | (refine step_append_lies _ rfl _ _ 23 rfl (w1.heap.size + 1) 45 i0 (.agg #[.int .i64 0, .int .i64 0, .int .i64 0, .int .i64 0, .int .i64 0, .int .i64 0, .int .i64 0]) 7 56 Tryd.underlying23 hi hz0 hz1 hz2 rfl (by decide) _ _ _ rfl (HRT.out.hl.alloc _) ⟨W4.heap.size, 0, none⟩ 1 1 (lkC ⟨v1, v2, v3, v4, v5, v6, v7⟩) rfl rfl (lkc_cells _ ⟨v1, v2, v3, v4, v5, v6, v7⟩ _) (lkc_one _) (by decide) (by have := HTL.out; unfold maxLen; omega) (by have := HTL.out; omega) (Nat.le_trans HRT.out.sz (by simp)) _ rfl ?_; intro g cap W5 ap1 ap2 ap3 ap4; have HRA := Lib.hid (HRT.out.up (below_box W4 (.cells #[.int .i64 v1, .int .i64 v2, .int .i64 v3, .int .i64 v4, .int .i64 v5, .int .i64 v6, .int .i64 v7] 45))); have m2 : W5.cell? ⟨w1.heap.size, 2, none⟩ = some ls := (ap2.cell_far ⟨w1.heap.size, 2, none⟩ (lt_of_heap HRA.out.st) (fun e => own_tb HRA.out.hl HRA.out.lt e.symm)).trans HRA.out.cells.2.2.1; have m3 : W5.frozen? ⟨w1.heap.size, 2, none⟩ = false := (ap2.frozen_far ⟨w1.heap.size, 2, none⟩ (lt_of_heap HRA.out.st) (fun e => own_tb HRA.out.hl HRA.out.lt e.symm)).trans (HRA.out.cells.2.2.2 2)) | (go_simp; first | done | (first | (refine step_append_lies _ rfl _ _ 23 rfl (w1.heap.size + 1) 45 i0 (.agg #[.int .i64 0, .int .i64 0, .int .i64 0, .int .i64 0, .int .i64 0, .int .i64 0, .int .i64 0]) 7 56 Tryd.underlying23 hi hz0 hz1 hz2 rfl (by decide) _ _ _ rfl (HRT.out.hl.alloc _) ⟨W4.heap.size, 0, none⟩ 1 1 (lkC ⟨v1, v2, v3, v4, v5, v6, v7⟩) rfl rfl (lkc_cells _ ⟨v1, v2, v3, v4, v5, v6, v7⟩ _) (lkc_one _) (by decide) (by have := HTL.out; unfold maxLen; omega) (by have := HTL.out; omega) (Nat.le_trans HRT.out.sz (by simp)) _ rfl ?_; intro g cap W5 ap1 ap2 ap3 ap4; have HRA := Lib.hid (HRT.out.up (below_box W4 (.cells #[.int .i64 v1, .int .i64 v2, .int .i64 v3, .int .i64 v4, .int .i64 v5, .int .i64 v6, .int .i64 v7] 45))); have m2 : W5.cell? ⟨w1.heap.size, 2, none⟩ = some ls := (ap2.cell_far ⟨w1.heap.size, 2, none⟩ (lt_of_heap HRA.out.st) (fun e => own_tb HRA.out.hl HRA.out.lt e.symm)).trans HRA.out.cells.2.2.1; have m3 : W5.frozen? ⟨w1.heap.size, 2, none⟩ = false := (ap2.frozen_far ⟨w1.heap.size, 2, none⟩ (lt_of_heap HRA.out.st) (fun e => own_tb HRA.out.hl HRA.out.lt e.symm)).trans (HRA.out.cells.2.2.2 2)))) | go_simp)
                  (first | (with_reducible refine hK.out _ _ ?_ ?_) | (go_wp2_with fail; refine hK.out _ _ ?_ ?_))
                  (focus (exact w7_grown ap2 HNL.out hHeld))
                  clear hK K hHeld
                  intro hHeld
                  (try simp only [Act.put, List.setIfInBounds_toArray, List.set_cons_zero, List.set_cons_succ])
                  (refine takeL (i := 34) (v := ?_) rfl (by kernel_rfl) (by decide +kernel) (by decide +kernel) (fun _ _ _ h => h) (Or.inl ⟨by rfl, ?_⟩) (by assumption) ?_; rotate_left; (focus (intro w9 hS9; (try dsimp only at hS9); go_simp; (try with_reducible rfl); done)))
                  (try simp only [Act.put, List.setIfInBounds_toArray, List.set_cons_zero, List.set_cons_succ])
                  refine wpAnyH_ready (rs := [35]) (by decide +kernel) (by simp) ?_
                  refine consL rfl (fun K hK => ?_) ?_
                  · (first | fail | (go_simp; first | done | (first | fail)) | go_simp)
                    (first | (with_reducible refine hK.out _ _ ?_ ?_) | (go_wp2_with fail; refine hK.out _ _ ?_ ?_))
                    (focus (exact w7_set hHeld HNB.out))
                    clear hK K hHeld
                    intro hHeld
                    (try simp only [Act.put, List.setIfInBounds_toArray, List.set_cons_zero, List.set_cons_succ])
                    refine wpAnyH_done (by decide +kernel) ?_ _
                    go_wp2_with fail
                    go_roundw
                    case rel => exact ⟨k + 1, { t with ls := t.ls ++ [⟨v1, v2, v3, v4, v5, v6, v7⟩] }, ov, _, by omega, by go_num, Lib.hid (by have := HTL.out; show (t.ls ++ [_]).length ≤ _; rw [List.length_append]; exact Nat.succ_le_succ this), Lib.hid (by have := HF2.out; rw [HS.out] at this; exact this.symm), Lib.hid ((HRT.out.up (below_box W4 _)).app _ ap1 ap2 (ap3.elim (fun h => .inl h.symm) (fun h => .inr (by rw [h]; rfl)))), Lib.hid ((HRT.out.appB HW.out ap2).setCell (Nat.le_refl _) _)⟩
                    case measure => simp [intOf]; omega
                  exact AllReadyH.nil
                exact AllReadyH.nil
              exact AllReadyH.nil
            refine consL rfl (fun K hK => ?_) ?_
            · (first | fail | (go_simp; first | done | (first | fail)) | go_simp)
              (first | (with_reducible refine hK.out _ _ ?_ ?_) | (go_wp2_with fail; refine hK.out _ _ ?_ ?_))
              (focus (exact w7_alloc _ hHeld))
              clear hK K hHeld
              intro hHeld
              (try simp only [Act.put, List.setIfInBounds_toArray, List.set_cons_zero, List.set_cons_succ])
              refine wpAnyH_ready (rs := [1]) (by decide +kernel) (by simp) ?_
              refine consL rfl (fun K hK => ?_) ?_
              · (first | fail | (go_simp; first | done | (first | fail)) | go_simp)
                (first | (with_reducible refine hK.out _ _ ?_ ?_) | (go_wp2_with fail; refine hK.out _ _ ?_ ?_))
                (focus (exact hHeld))
                clear hK K hHeld
                intro hHeld
                (try simp only [Act.put, List.setIfInBounds_toArray, List.set_cons_zero, List.set_cons_succ])
                refine wpAnyH_ready (rs := [33]) (by decide +kernel) (by simp) ?_
                refine consL rfl (fun K hK => ?_) ?_
                · (first | (refine step_append_lies _ rfl _ _ 23 rfl (w1.heap.size + 1) 45 i0 (.agg #[.int .i64 0, .int .i64 0, .int .i64 0, .int .i64 0, .int .i64 0, .int .i64 0, .int .i64 0]) 7 56 Tryd.underlying23 hi hz0 hz1 hz2 rfl (by decide) _ _ _ rfl (HRT.out.hl.alloc _) ⟨W4.heap.size, 0, none⟩ 1 1 (lkC ⟨v1, v2, v3, v4, v5, v6, v7⟩) rfl rfl (lkc_cells _ ⟨v1, v2, v3, v4, v5, v6, v7⟩ _) (lkc_one _) (by decide) (by have := HTL.out; unfold maxLen; omega) (by have := HTL.out; omega) (Nat.le_trans HRT.out.sz (by simp)) _ rfl ?_; intro g cap W5 ap1 ap2 ap3 ap4; have HRA := Lib.hid (HRT.out.up (below_box W4 (.cells #[.int .i64 v1, .int .i64 v2, .int .i64 v3, .int .i64 v4, .int .i64 v5, .int .i64 v6, .int .i64 v7] 45))); have m2 : W5.cell? ⟨w1.heap.size, 2, none⟩ = some ls := (ap2.cell_far ⟨w1.heap.size, 2, none⟩ (lt_of_heap HRA.out.st) (fun e => own_tb HRA.out.hl HRA.out.lt e.symm)).trans HRA.out.cells.2.2.1; have m3 : W5.frozen? ⟨w1.heap.size, 2, none⟩ = false := (ap2.frozen_far ⟨w1.heap.size, 2, none⟩ (lt_of_heap HRA.out.st) (fun e => own_tb HRA.out.hl HRA.out.lt e.symm)).trans (HRA.out.cells.2.2.2 2)) | (go_simp; first | done | (first | (refine step_append_lies _ rfl _ _ 23 rfl (w1.heap.size + 1) 45 i0 (.agg #[.int .i64 0, .int .i64 0, .int .i64 0, .int .i64 0, .int .i64 0, .int .i64 0, .int .i64 0]) 7 56 Tryd.underlying23 hi hz0 hz1 hz2 rfl (by decide) _ _ _ rfl (HRT.out.hl.alloc _) ⟨W4.heap.size, 0, none⟩ 1 1 (lkC ⟨v1, v2, v3, v4, v5, v6, v7⟩) rfl rfl (lkc_cells _ ⟨v1, v2, v3, v4, v5, v6, v7⟩ _) (lkc_one _) (by decide) (by have := HTL.out; unfold maxLen; omega) (by have := HTL.out; omega) (Nat.le_trans HRT.out.sz (by simp)) _ rfl ?_; intro g cap W5 ap1 ap2 ap3 ap4; have HRA := Lib.hid (HRT.out.up (below_box W4 (.cells #[.int .i64 v1, .int .i64 v2, .int .i64 v3, .int .i64 v4, .int .i64 v5, .int .i64 v6, .int .i64 v7] 45))); have m2 : W5.cell? ⟨w1.heap.size, 2, none⟩ = some ls := (ap2.cell_far ⟨w1.heap.size, 2, none⟩ (lt_of_heap HRA.out.st) (fun e => own_tb HRA.out.hl HRA.out.lt e.symm)).trans HRA.out.cells.2.2.1; have m3 : W5.frozen? ⟨w1.heap.size, 2, none⟩ = false := (ap2.frozen_far ⟨w1.heap.size, 2, none⟩ (lt_of_heap HRA.out.st) (fun e => own_tb HRA.out.hl HRA.out.lt e.symm)).trans (HRA.out.cells.2.2.2 2)))) | go_simp)
                  (first | (with_reducible refine hK.out _ _ ?_ ?_) | (go_wp2_with fail; refine hK.out _ _ ?_ ?_))
                  (focus (exact w7_grown ap2 HNL.out hHeld))
                  clear hK K hHeld
                  intro hHeld
                  (try simp only [Act.put, List.setIfInBounds_toArray, List.set_cons_zero, List.set_cons_succ])
                  (refine takeL (i := 34) (v := ?_) rfl (by kernel_rfl) (by decide +kernel) (by decide +kernel) (fun _ _ _ h => h) (Or.inl ⟨by rfl, ?_⟩) (by assumption) ?_; rotate_left; (focus (intro w9 hS9; (try dsimp only at hS9); go_simp; (try with_reducible rfl); done)))
                  (try simp only [Act.put, List.setIfInBounds_toArray, List.set_cons_zero, List.set_cons_succ])
                  refine wpAnyH_ready (rs := [35]) (by decide +kernel) (by simp) ?_
                  refine consL rfl (fun K hK => ?_) ?_
                  · (first | fail | (go_simp; first | done | (first | fail)) | go_simp)
                    (first | (with_reducible refine hK.out _ _ ?_ ?_) | (go_wp2_with fail; refine hK.out _ _ ?_ ?_))
                    (focus (exact w7_set hHeld HNB.out))
                    clear hK K hHeld
                    intro hHeld
                    (try simp only [Act.put, List.setIfInBounds_toArray, List.set_cons_zero, List.set_cons_succ])
                    refine wpAnyH_done (by decide +kernel) ?_ _
                    go_wp2_with fail
                    go_roundw
                    case rel => exact ⟨k + 1, { t with ls := t.ls ++ [⟨v1, v2, v3, v4, v5, v6, v7⟩] }, ov, _, by omega, by go_num, Lib.hid (by have := HTL.out; show (t.ls ++ [_]).length ≤ _; rw [List.length_append]; exact Nat.succ_le_succ this), Lib.hid (by have := HF2.out; rw [HS.out] at this; exact this.symm), Lib.hid ((HRT.out.up (below_box W4 _)).app _ ap1 ap2 (ap3.elim (fun h => .inl h.symm) (fun h => .inr (by rw [h]; rfl)))), Lib.hid ((HRT.out.appB HW.out ap2).setCell (Nat.le_refl _) _)⟩
                    case measure => simp [intOf]; omega
                  exact AllReadyH.nil
                exact AllReadyH.nil
              exact AllReadyH.nil
            exact AllReadyH.nil
        have c2 : ((ws.length : Int) == 2) = false := by rw [beq_eq_false_iff_ne]; omega
        have c8 : ((ws.length : Int) == 8) = false := by rw [beq_eq_false_iff_ne]; omega
        have HS : Hid (stepR k t ws = t) := Lib.hid (by unfold stepR; rw [if_neg (fun h => w2 h.2), if_neg w2, if_neg w8])
        clear w2 w8
        by_cases k0 : k = 0
        · subst k0
          rw [Nat.add_zero] at q0
          have h0 : (0 : Int) < (ps.length : Int) := by omega
          go_wp2_with (go_at_call 24; (with_reducible refine (HC2.out _).mono ?_); rintro e w2 ⟨Aw, cw, rfl, hw1, hw2, hrw, hb⟩; replace HRT := Lib.hid (HRT.out.up hb); replace HW := Lib.hid (below_next HW.out hb); have HRW := Lib.hid hrw; have HCW := Lib.hid (And.intro hw1 hw2); clear hb q0 hrw hw1 hw2)
          go_roundw
          case rel => exact ⟨1, t, ov, ls, by omega, rfl, Lib.hid (by exact Nat.le_trans HTL.out (Nat.zero_le 1)), Lib.hid (by have := HF2.out; rw [HS.out] at this; exact this.symm), HRT, HW⟩
          case measure => simp [intOf]; omega
        · have ck : ((k : Int) == 0) = false := by rw [beq_eq_false_iff_ne]; omega
          go_wp2_with (go_at_call 24; (with_reducible refine (HC2.out _).mono ?_); rintro e w2 ⟨Aw, cw, rfl, hw1, hw2, hrw, hb⟩; replace HRT := Lib.hid (HRT.out.up hb); replace HW := Lib.hid (below_next HW.out hb); have HRW := Lib.hid hrw; have HCW := Lib.hid (And.intro hw1 hw2); clear hb q0 hrw hw1 hw2)
          go_roundw
          case rel => exact ⟨k + 1, t, ov, ls, by omega, by go_num, Lib.hid (by have := HTL.out; omega), Lib.hid (by have := HF2.out; rw [HS.out] at this; exact this.symm), HRT, HW⟩
          case measure => simp [intOf]; omega
      obtain rfl : k = ps.length := by omega
      have HR9 : Hid (readR9 s = t) := Lib.hid (by unfold readR9; rw [HOK.out, HLR.out, if_pos rfl, ← HF.out, List.drop_length]; rfl)
      obtain ⟨A1, A2, c1, c2, rfl, rfl, hTA⟩ := HRT.out.tat
      have HTA := Lib.hid hTA
      clear hTA hlt HF
      obtain ⟨b0, b1, b2, bf⟩ := HRT.out.cells
      have HVA : Hid (∀ W, TAt W A1 A2 t → Calls Tryd.prog 9 #[.agg #[.int .i64 t.n, .slice A1 t.ov.length c1, .slice A2 t.ls.length c2]] W fun e w' => e = .returned (.bool (valid t)) ∧ Below W.heap.size W w') := Lib.hid fun W h => ref09_Valid t A1 A2 c1 c2 W h.ls
      have HTX : Hid (∀ W, TAt W A1 A2 t → Calls Tryd.prog 10 #[.agg #[.int .i64 t.n, .slice A1 t.ov.length c1, .slice A2 t.ls.length c2]] W fun e w' => e = .returned (.string ⟨(textV t).toArray⟩) ∧ Below W.heap.size W w') := Lib.hid fun W h => ref09_Text t A1 A2 c1 c2 W h (by have := HTL.out; omega)
      obtain ⟨T, hT⟩ : ∃ T, T = textV t := ⟨_, rfl⟩
      rw [← hT] at HTX
      have HTT := Lib.hid hT
      clear hT
      cases hv : valid t with
      | false =>
        have HVV : Hid (V = (zeroT, 3)) := Lib.hid (by rw [HV.out]; unfold topoR; rw [HR9.out, hv]; simp)
        rw [hv] at HVA
        clear hv
        go_wp2_with (go_at_call 9; (with_reducible refine (HVA.out _ HTA.out).mono ?_); rintro e w2 ⟨rfl, hb⟩; replace HRT := Lib.hid (HRT.out.up hb); replace HW := Lib.hid (below_next HW.out hb); clear hb b0 b1 b2 bf HRB2; have HRB2 := Lib.hid ((HW.out.block w.heap.size (by omega)).trans HRB.out); have z0 := Lib.cell_of_heap HRB2.out (j := 0); have z1 := Lib.cell_of_heap HRB2.out (j := 1); have z2 := Lib.cell_of_heap HRB2.out (j := 2); have zf0 : w2.frozen? ⟨w.heap.size, 0, none⟩ = false := Lib.frozen_of_heap HRB2.out _; have zf1 : w2.frozen? ⟨w.heap.size, 1, none⟩ = false := Lib.frozen_of_heap HRB2.out _; have zf2 : w2.frozen? ⟨w.heap.size, 2, none⟩ = false := Lib.frozen_of_heap HRB2.out _)
        have hz := box_set3 (x := .int .i64 0) (y := .slice none 0 0) (z := .slice none 0 0) HRB2.out
        have hz0 := Lib.cell_of_heap hz (j := 0)
        have hz1 := Lib.cell_of_heap hz (j := 1)
        have hz2 := Lib.cell_of_heap hz (j := 2)
        rw [HVV.out]
        exact bodyPost_ret (v := .tuple #[.agg #[.int .i64 0, .slice none 0 0, .slice none 0 0], .int .i64 3]) (by simp [results, Tryd.results12, go_sem, hz0, hz1, hz2]) rfl (retTP_zero (below_set3 (HB.out.trans (HW.out.mono (Nat.le_of_lt h00))) (Nat.le_refl _) _ _ _))
      | true =>
        rw [hv] at HVA
        have HVT := Lib.hid hv
        clear hv
        by_cases hTs : T = s
        · have HVV : Hid (V = (t, 0)) := Lib.hid (by
            have e : textOf t = s := by rw [← hTs, HTT.out]; simp [textV, HVT.out]
            rw [HV.out]; unfold topoR; rw [HR9.out, HVT.out, e]; simp [HOK.out])
          subst hTs
          go_wp2_with (first | (go_at_call 9; (with_reducible refine (HVA.out _ HTA.out).mono ?_); rintro e w2 ⟨rfl, hb⟩; replace HTA := Lib.hid (HTA.out.below hb); replace HRT := Lib.hid (HRT.out.up hb); replace HW := Lib.hid (below_next HW.out hb); clear hb b0 b1 b2 bf; obtain ⟨b0, b1, b2, bf⟩ := HRT.out.cells) | (go_at_call 10; (with_reducible refine (HTX.out _ HTA.out).mono ?_); rintro e w3 ⟨rfl, hb⟩; replace HTA := Lib.hid (HTA.out.below hb); replace HRT := Lib.hid (HRT.out.up hb); replace HW := Lib.hid (below_next HW.out hb); clear hb b0 b1 b2 bf HRB2; obtain ⟨b0, b1, b2, bf⟩ := HRT.out.cells; have HRB2 := Lib.hid ((HW.out.block w.heap.size (by omega)).trans HRB.out); have z0 := Lib.cell_of_heap HRB2.out (j := 0); have z1 := Lib.cell_of_heap HRB2.out (j := 1); have z2 := Lib.cell_of_heap HRB2.out (j := 2); have zf0 : w3.frozen? ⟨w.heap.size, 0, none⟩ = false := Lib.frozen_of_heap HRB2.out _; have zf1 : w3.frozen? ⟨w.heap.size, 1, none⟩ = false := Lib.frozen_of_heap HRB2.out _; have zf2 : w3.frozen? ⟨w.heap.size, 2, none⟩ = false := Lib.frozen_of_heap HRB2.out _))
          have hz := box_set3 (x := .int .i64 t.n) (y := .slice A1 t.ov.length c1) (z := .slice A2 t.ls.length c2) HRB2.out
          have hz0 := Lib.cell_of_heap hz (j := 0)
          have hz1 := Lib.cell_of_heap hz (j := 1)
          have hz2 := Lib.cell_of_heap hz (j := 2)
          rw [HVV.out]
          exact bodyPost_ret (v := .tuple #[.agg #[.int .i64 t.n, .slice A1 t.ov.length c1, .slice A2 t.ls.length c2], .int .i64 0]) (by simp [results, Tryd.results12, go_sem, hz0, hz1, hz2]) rfl ⟨A1, A2, c1, c2, rfl, (((HRT.out.setR h00 0 _).setR h00 1 _).setR h00 2 _).tat2, below_set3 (HB.out.trans (HW.out.mono (Nat.le_of_lt h00))) (Nat.le_refl _) _ _ _⟩
        · have HVV : Hid (V = (zeroT, 3)) := Lib.hid (by
            have e : textOf t ≠ s := by intro e; apply hTs; rw [HTT.out]; simp [textV, HVT.out, e]
            rw [HV.out]; unfold topoR; rw [HR9.out, if_neg (fun h => e h.2.2)])
          have hTb : (T == s) = false := by simpa using hTs
          go_wp2_with (first | (go_at_call 9; (with_reducible refine (HVA.out _ HTA.out).mono ?_); rintro e w2 ⟨rfl, hb⟩; replace HTA := Lib.hid (HTA.out.below hb); replace HRT := Lib.hid (HRT.out.up hb); replace HW := Lib.hid (below_next HW.out hb); clear hb b0 b1 b2 bf; obtain ⟨b0, b1, b2, bf⟩ := HRT.out.cells) | (go_at_call 10; (with_reducible refine (HTX.out _ HTA.out).mono ?_); rintro e w3 ⟨rfl, hb⟩; replace HTA := Lib.hid (HTA.out.below hb); replace HRT := Lib.hid (HRT.out.up hb); replace HW := Lib.hid (below_next HW.out hb); clear hb b0 b1 b2 bf HRB2; obtain ⟨b0, b1, b2, bf⟩ := HRT.out.cells; have HRB2 := Lib.hid ((HW.out.block w.heap.size (by omega)).trans HRB.out); have z0 := Lib.cell_of_heap HRB2.out (j := 0); have z1 := Lib.cell_of_heap HRB2.out (j := 1); have z2 := Lib.cell_of_heap HRB2.out (j := 2); have zf0 : w3.frozen? ⟨w.heap.size, 0, none⟩ = false := Lib.frozen_of_heap HRB2.out _; have zf1 : w3.frozen? ⟨w.heap.size, 1, none⟩ = false := Lib.frozen_of_heap HRB2.out _; have zf2 : w3.frozen? ⟨w.heap.size, 2, none⟩ = false := Lib.frozen_of_heap HRB2.out _))
          have hz := box_set3 (x := .int .i64 0) (y := .slice none 0 0) (z := .slice none 0 0) HRB2.out
          have hz0 := Lib.cell_of_heap hz (j := 0)
          have hz1 := Lib.cell_of_heap hz (j := 1)
          have hz2 := Lib.cell_of_heap hz (j := 2)
          rw [HVV.out]
          exact bodyPost_ret (v := .tuple #[.agg #[.int .i64 0, .slice none 0 0, .slice none 0 0], .int .i64 3]) (by simp [results, Tryd.results12, go_sem, hz0, hz1, hz2]) rfl (retTP_zero (below_set3 (HB.out.trans (HW.out.mono (Nat.le_of_lt h00))) (Nat.le_refl _) _ _ _))

end Go.Proofs.YtfbloolloifndaaDoor
