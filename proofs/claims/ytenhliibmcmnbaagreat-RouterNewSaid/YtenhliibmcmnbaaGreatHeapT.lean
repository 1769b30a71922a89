/-
  An indexed queue in memory: settle.
-/
import Derived.Test.YtenhliibmcmnbaaGreatHeapS
import Derived.Deep.CutRange
import Derived.Deep.DeepCutAuto
namespace Go.Proofs.YtenhliibmcmnbaaGreat
set_option linter.unusedSimpArgs false
set_option linter.unusedVariables false
open Go.RowKit Go.Sort

section
variable {B hb N kb pb : Nat} {v : Value} {ks ps os : List Int} {w : World}
/-- What settle and its kin keep. -/
structure HK (B hb N kb pb : Nat) (v : Value) (ks os : List Int) (w : World) (ps' os' : List Int) (w' : World) : Prop where
  p : HP N ks ps' os'
  r : HeapR B hb N kb pb v ks ps' os' w'
  m : os'.Perm os
  b : Below B w w'
theorem HK.len {ps' os' : List Int} {w' : World} (h : HK B hb N kb pb v ks os w ps' os' w') : os'.length = os.length := h.m.length_eq
theorem HK.up {ps' os' : List Int} {w1 w2 : World} (h : HK B hb N kb pb v ks os w ps' os' w1) (hb' : Below w1.heap.size w1 w2) : HK B hb N kb pb v ks os w ps' os' w2 :=
  ⟨h.p, h.r.up hb', h.m, h.b.trans (hb'.mono (Nat.le_trans h.r.ne.2.2.2.2.2.2 (Nat.le_of_lt h.r.h.lt)))⟩
theorem HK.swap {ps' os' : List Int} {w1 w2 : World} {p q : Nat} (h : HK B hb N kb pb v ks os w ps' os' w1) (hp : p < os.length) (hq : q < os.length) (hr : HeapR B hb N kb pb v ks (swP ps' os' p q) (swO os' p q) w2) (hb' : Below B w1 w2) : HK B hb N kb pb v ks os w (swP ps' os' p q) (swO os' p q) w2 :=
  ⟨h.p.swap (by rw [h.len]; exact hp) (by rw [h.len]; exact hq), hr, (swO_perm (by rw [h.len]; exact hp) (by rw [h.len]; exact hq)).trans h.m, h.b.trans hb'⟩
set_option maxRecDepth 100000 in
set_option maxHeartbeats 4000000 in
theorem heap_settle (p : Nat) (hN : N ≤ 65536) (h : HP N ks ps os) (H : HeapR B hb N kb pb v ks ps os w) (hp : p < os.length) :
    Calls Tryz.prog 313 #[.pointer (some ⟨hb, 0, none⟩), .int .i64 p] w fun e w' => e = .returned (.tuple #[]) ∧ ∃ ps' os', HK B hb N kb pb v ks os w ps' os' w' := by
  obtain ⟨g, c, rfl, _, _⟩ := own_at H.o (by omega)
  have HI := Lib.hid (HK.mk h H (List.Perm.refl _) (Below.refl B w) : HK B hb N kb pb (.slice (some ⟨g, 0, none⟩) os.length c) ks os w ps os w)
  have hle := h.le
  clear h H
  go_enter Tryz.func313, Tryz.ntmps313
  go_upto_block 0 with fail
  go_cut [1] from 6 to 24 (fun i wx => ∃ (k : Nat) (ps' os' : List Int), i = .int .i64 k ∧ k < os.length ∧ Hid (HK B hb N kb pb (.slice (some ⟨g, 0, none⟩) os.length c) ks os w ps' os' wx))
  case first =>
    go_wp2_with fail
    go_loopw [1] (fun i wr => ∃ (k : Nat) (ps' os' : List Int), i = .int .i64 k ∧ k < os.length ∧ Hid (HK B hb N kb pb (.slice (some ⟨g, 0, none⟩) os.length c) ks os w ps' os' wr)) (fun i _ => (intOf i).toNat)
    case atStart => exact ⟨p, ps, os, rfl, hp, HI⟩
    case round =>
      clear HI hp
      obtain ⟨k, ps', os', rfl, hk, HI⟩ := hrel
      by_cases h0 : k = 0
      · subst h0
        go_wp2_with fail
        go_meet
        exact ⟨0, ps', os', rfl, hk, HI⟩
      · have hkp : (0 : Int) < (k : Int) := by omega
        have hq1 : ((k : Int) - 1).tdiv 2 = (((k - 1) / 2 : Nat) : Int) := by
          rw [show (k : Int) - 1 = ((k - 1 : Nat) : Int) by omega]; exact (Int.ofNat_tdiv (k - 1) 2).symm
        have hq2 : ((k : Int) - 1) / 2 = (((k - 1) / 2 : Nat) : Int) := by omega
        have hk2 : (k - 1) / 2 < k := by omega
        have HBE := Lib.hid (heap_before k ((k - 1) / 2) hN HI.out.p HI.out.r (by rw [HI.out.len]; exact hk) (by rw [HI.out.len]; omega))
        have HSW := Lib.hid (fun W (hW : HeapR B hb N kb pb (.slice (some ⟨g, 0, none⟩) os.length c) ks ps' os' W) => heap_swap k ((k - 1) / 2) hN HI.out.p hW (by rw [HI.out.len]; exact hk) (by rw [HI.out.len]; omega))
        cases hbf : bef ks os' k ((k - 1) / 2) with
        | false =>
          go_wp2_with (go_at_call 318; (try simp only [hq2]); refine HBE.out.mono ?_; rw [hbf]; rintro e w3 ⟨rfl, hb3⟩; replace HI := Lib.hid (HI.out.up hb3); clear hb3)
          go_meet
          exact ⟨k, ps', os', rfl, hk, HI⟩
        | true =>
          go_wp2_with (first | (go_at_call 318; (try simp only [hq2]); refine HBE.out.mono ?_; rw [hbf]; rintro e w3 ⟨rfl, hb3⟩; replace HI := Lib.hid (HI.out.up hb3); clear hb3) | (go_at_call 319; (try simp only [hq2]); refine (HSW.out _ HI.out.r).mono ?_; rintro e w4 ⟨rfl, hr4, hb4⟩; have HI4 := Lib.hid (HI.out.swap hk (by omega) hr4 hb4); clear hr4 hb4))
          go_roundw
          case rel => exact ⟨(k - 1) / 2, _, _, by go_num, by omega, HI4⟩
          case measure => simp [intOf]; omega
  case rest =>
    clear HI hp
    obtain ⟨k, ps', os', rfl, hk, HI⟩ := hcut
    go_wp2_with fail
    go_loopw [1] (fun i wr => ∃ (k : Nat) (ps' os' : List Int), i = .int .i64 k ∧ k < os.length ∧ Hid (HK B hb N kb pb (.slice (some ⟨g, 0, none⟩) os.length c) ks os w ps' os' wr)) (fun i _ => os.length - (intOf i).toNat)
    case atStart => exact ⟨k, ps', os', rfl, hk, HI⟩
    case round =>
      clear HI hk
      obtain ⟨k, ps', os', rfl, hk, HI⟩ := hrel
      have hk1 : (k : Int) ≤ 65536 := by omega
      go_upto_block 4 with fail
      go_cut [4, 5] from 25 to 57 (fun l _ wx => ∃ j : Nat, l = .int .i64 j ∧ k ≤ j ∧ j < os.length ∧ Hid (HK B hb N kb pb (.slice (some ⟨g, 0, none⟩) os.length c) ks os w ps' os' wx))
      case first =>
        go_wp2_with fail
        go_loopw [4, 5] (fun l i wr => ∃ (j m : Nat), l = .int .i64 j ∧ i = .int .i64 m ∧ k ≤ j ∧ j < os.length ∧ k < m ∧ m ≤ 2 * k + 3 ∧ Hid (HK B hb N kb pb (.slice (some ⟨g, 0, none⟩) os.length c) ks os w ps' os' wr)) (fun _ i _ => 2 * k + 3 - (intOf i).toNat)
        case atStart => exact ⟨k, 2 * k + 1, rfl, by go_num, by omega, hk, by omega, by omega, HI⟩
        case round =>
          clear HI
          obtain ⟨j, m, rfl, rfl, hj1, hj2, hm1, hm2, HI⟩ := hrel
          by_cases c1 : m ≤ 2 * k + 2
          · have c1' : (m : Int) ≤ 2 * (k : Int) + 2 := by omega
            obtain ⟨h0, h1, h2, hf⟩ := HI.out.r.h.c3
            clear h0 h1 hf
            by_cases c2 : m < os.length
            · have c2' : (m : Int) < (os.length : Int) := by omega
              have HBE := Lib.hid (heap_before m j hN HI.out.p HI.out.r (by rw [HI.out.len]; exact c2) (by rw [HI.out.len]; omega))
              cases hbf : bef ks os' m j with
              | false =>
                go_wp2_with (go_at_call 318; refine HBE.out.mono ?_; rw [hbf]; rintro e w3 ⟨rfl, hb3⟩; replace HI := Lib.hid (HI.out.up hb3); clear hb3 h2)
                go_roundw
                case rel => exact ⟨j, m + 1, rfl, by go_num, by omega, by omega, by omega, by omega, HI⟩
                case measure => simp [intOf]; omega
              | true =>
                go_wp2_with (go_at_call 318; refine HBE.out.mono ?_; rw [hbf]; rintro e w3 ⟨rfl, hb3⟩; replace HI := Lib.hid (HI.out.up hb3); clear hb3 h2)
                go_roundw
                case rel => exact ⟨m, m + 1, rfl, by go_num, by omega, by omega, by omega, by omega, HI⟩
                case measure => simp [intOf]; omega
            · have c2' : ¬ (m : Int) < (os.length : Int) := by omega
              go_wp2_with fail
              go_meet
              exact ⟨j, rfl, hj1, hj2, HI⟩
          · have c1' : ¬ (m : Int) ≤ 2 * (k : Int) + 2 := by omega
            go_wp2_with fail
            go_meet
            exact ⟨j, rfl, hj1, hj2, HI⟩
      case rest =>
        clear HI
        obtain ⟨j, rfl, hj1, hj2, HI⟩ := hcut
        by_cases e : j = k
        · subst e
          go_wp2_with fail
          exact bodyPost_ret (v := .tuple #[]) (by simp [results, Tryz.results313, go_sem]) rfl ⟨rfl, _, _, HI.out⟩
        · have hne : ((j : Int) == (k : Int)) = false := by simp; omega
          have HSW := Lib.hid (fun W (hW : HeapR B hb N kb pb (.slice (some ⟨g, 0, none⟩) os.length c) ks ps' os' W) => heap_swap k j hN HI.out.p hW (by rw [HI.out.len]; exact hk) (by rw [HI.out.len]; omega))
          go_wp2_with (go_at_call 319; refine (HSW.out _ HI.out.r).mono ?_; rintro e w4 ⟨rfl, hr4, hb4⟩; have HI4 := Lib.hid (HI.out.swap hk hj2 hr4 hb4); clear hr4 hb4)
          go_roundw
          case rel => exact ⟨j, _, _, rfl, hj2, HI4⟩
          case measure => simp [intOf]; omega
end
end Go.Proofs.YtenhliibmcmnbaaGreat
