/-
  The demands, the segments and the policies of a configuration: config's checks and the reference's (printed by gen_cfgvd.py).
  The policies of a configuration: config.validPolicies and the reference's (printed by gen_cfgvq.py).
  The prefixes of a configuration: a map that counts; config.validPrefixes and the reference's (the walks printed by gen_cfgvx.py).
  The prefixes of a configuration: the reference's check (printed by gen_cfgvy.py).
-/
import Derived.Test.YtfimacgmciogmaaGreatDoorCfgAt
namespace Go.Proofs.YtfimacgmciogmaaGreatDoor
set_option linter.unusedSimpArgs false
set_option linter.unusedVariables false
open Go.RowKit Go.Shelf Go.Sort
def wB (x lo hi : Int) : Bool := decide (lo ≤ x) && decide (x ≤ hi)
def demB (n : Int) (d : Int × Int × Int × Int) : Bool := !(d.1 == d.2.1) && (wB d.1 0 (n - 1) && (wB d.2.1 0 (n - 1) && (wB d.2.2.1 1 1048576 && wB d.2.2.2 0 7)))
def demsB (n : Int) (ds : List (Int × Int × Int × Int)) : Bool := decide (ds.length ≤ 64) && ds.all (demB n)
theorem cfg_withinB (x lo hi : Int) (w : World) : Calls Tryz.prog 23 #[.int .i64 x, .int .i64 lo, .int .i64 hi] w fun e w' => e = .returned (.bool (wB x lo hi)) ∧ w = w' := cfg_within x lo hi w
set_option maxHeartbeats 8000000 in
set_option maxRecDepth 100000 in
theorem cfg_validDemands (n : Int) (r : Rws) (c : Cf) (hn1 : 1 ≤ n) (hn2 : n ≤ 64) (hd : c.dems.length ≤ maxLen) (w : World) (h : CAt w r c) : Calls Tryz.prog 26 #[.agg (cfCells n r c)] w fun e w' => e = .returned (.bool (demsB n c.dems)) ∧ Below w.heap.size w w' := by
 unfold maxLen at hd
 obtain ⟨V, hV⟩ : ∃ V, V = demsB n c.dems := ⟨_, rfl⟩
 rw [← hV]
 have HV := Lib.hid hV
 have HK := Lib.hid (KC.start 33 w n r c h)
 have p2 : (w.alloc (.cells (cfCells n r c) 33)).cell? ⟨w.heap.size, 2, none⟩ = some (.int .i64 n) := HK.out.p 2
 have p7 : (w.alloc (.cells (cfCells n r c) 33)).cell? ⟨w.heap.size, 7, none⟩ = some (.slice r.aD c.dems.length r.cD) := HK.out.p 7
 obtain ⟨A, hAe⟩ : ∃ A, A = r.aD := ⟨_, rfl⟩
 rw [← hAe] at p7
 have HAE := Lib.hid hAe
 clear hV h hAe
 by_cases hl : (64 : Int) < (c.dems.length : Int)
 ·have HVF : Hid (V = false) := Lib.hid (by rw [HV.out, demsB, decide_eq_false (by omega)]; rfl)
  go_enter Tryz.func26, Tryz.ntmps26
  go_wp2_with fail
  go_ret
  exact ⟨by rw [HVF.out]; rfl, HK.out.hb⟩
 have HVA : Hid (V = (c.dems.drop 0).all (demB n)) := Lib.hid (by rw [HV.out, demsB, decide_eq_true (by omega)]; rfl)
 clear HV
 go_enter Tryz.func26, Tryz.ntmps26
 go_wp2_with fail
 go_loopw [12] (fun i wr => ∃ k : Nat, k ≤ c.dems.length ∧ i = .int .i64 k ∧ Hid (V = (c.dems.drop k).all (demB n)) ∧ Hid (KC 33 w n r c wr)) (fun i _ => c.dems.length - (intOf i).toNat)
 case atStart => exact ⟨0, Nat.zero_le _, rfl, HVA, HK⟩
 case round =>
  clear HK HVA p2 p7
  obtain ⟨k, hk, rfl, HR, HK⟩ := hrel
  have hlt3 := HK.out.lt
  have hne3 : w.heap.size ≠ wr.heap.size := Nat.ne_of_lt hlt3
  have hne4 : wr.heap.size ≠ w.heap.size := Nat.ne_of_gt hlt3
  have p2 : wr.cell? ⟨w.heap.size, 2, none⟩ = some (.int .i64 n) := HK.out.p 2
  have p7 : wr.cell? ⟨w.heap.size, 7, none⟩ = some (.slice r.aD c.dems.length r.cD) := HK.out.p 7
  rw [← HAE.out] at p7
  by_cases hlt : k < c.dems.length
  ·obtain ⟨b, o, hA, hc⟩ := HK.out.c1.d.flat 4 (fun _ => rfl) (by decide) hlt
   have HD := Lib.hid (HR.out.trans (by rw [List.drop_eq_getElem_cons hlt, List.all_cons]))
   have hA2 := HAE.out.trans hA
   clear HAE HR hA
   subst hA2
   generalize c.dems[k] = x at hc HD
   obtain ⟨x0, x1, x2, x3⟩ := x
   have d0 : wr.cell? ⟨b, o + k * 4, none⟩ = some (.int .i64 x0) := hc 0 _ rfl
   have d1 : wr.cell? ⟨b, o + k * 4 + 1, none⟩ = some (.int .i64 x1) := hc 1 _ rfl
   have d2 : wr.cell? ⟨b, o + k * 4 + 2, none⟩ = some (.int .i64 x2) := hc 2 _ rfl
   have d3 : wr.cell? ⟨b, o + k * 4 + 3, none⟩ = some (.int .i64 x3) := hc 3 _ rfl
   clear hc
   obtain ⟨q1, z1⟩ : ∃ q, (x0 == x1) = q := ⟨_, rfl⟩
   obtain ⟨q2, z2⟩ : ∃ q, wB x0 0 (n - 1) = q := ⟨_, rfl⟩
   have HW2 : Hid (∀ W, Calls Tryz.prog 23 #[.int .i64 x0, .int .i64 0, .int .i64 (n - 1)] W fun e W' => e = .returned (.bool q2) ∧ W = W') := Lib.hid fun W => by rw [← z2]; exact cfg_withinB _ _ _ W
   obtain ⟨q3, z3⟩ : ∃ q, wB x1 0 (n - 1) = q := ⟨_, rfl⟩
   have HW3 : Hid (∀ W, Calls Tryz.prog 23 #[.int .i64 x1, .int .i64 0, .int .i64 (n - 1)] W fun e W' => e = .returned (.bool q3) ∧ W = W') := Lib.hid fun W => by rw [← z3]; exact cfg_withinB _ _ _ W
   obtain ⟨q4, z4⟩ : ∃ q, wB x2 1 1048576 = q := ⟨_, rfl⟩
   have HW4 : Hid (∀ W, Calls Tryz.prog 23 #[.int .i64 x2, .int .i64 1, .int .i64 1048576] W fun e W' => e = .returned (.bool q4) ∧ W = W') := Lib.hid fun W => by rw [← z4]; exact cfg_withinB _ _ _ W
   obtain ⟨q5, z5⟩ : ∃ q, wB x3 0 7 = q := ⟨_, rfl⟩
   have HW5 : Hid (∀ W, Calls Tryz.prog 23 #[.int .i64 x3, .int .i64 0, .int .i64 7] W fun e W' => e = .returned (.bool q5) ∧ W = W') := Lib.hid fun W => by rw [← z5]; exact cfg_withinB _ _ _ W
   have HDB : Hid (demB n (x0, x1, x2, x3) = (!q1 && (q2 && (q3 && (q4 && q5))))) := Lib.hid (by rw [← z1, ← z2, ← z3, ← z4, ← z5]; rfl)
   rw [HDB.out] at HD
   clear z2 z3 z4 z5 HDB
   cases q1 with
   | true =>
    have HVF : Hid (V = false) := Lib.hid (HD.out.trans (by simp))
    go_wp2_with (first | (go_at_call 23; (first | (with_reducible refine (HW2.out _).mono ?_) | (with_reducible refine (HW3.out _).mono ?_) | (with_reducible refine (HW4.out _).mono ?_) | (with_reducible refine (HW5.out _).mono ?_)); rintro e w5 ⟨rfl, rfl⟩))
    go_ret
    exact ⟨by rw [HVF.out]; rfl, (HK.out.up (below_box _ _)).hb⟩
   | false =>
    cases q2 with
    | false =>
     have HVF : Hid (V = false) := Lib.hid (HD.out.trans (by simp))
     go_wp2_with (first | (go_at_call 23; (first | (with_reducible refine (HW2.out _).mono ?_) | (with_reducible refine (HW3.out _).mono ?_) | (with_reducible refine (HW4.out _).mono ?_) | (with_reducible refine (HW5.out _).mono ?_)); rintro e w5 ⟨rfl, rfl⟩))
     go_ret
     exact ⟨by rw [HVF.out]; rfl, (HK.out.up (below_box _ _)).hb⟩
    | true =>
     cases q3 with
     | false =>
      have HVF : Hid (V = false) := Lib.hid (HD.out.trans (by simp))
      go_wp2_with (first | (go_at_call 23; (first | (with_reducible refine (HW2.out _).mono ?_) | (with_reducible refine (HW3.out _).mono ?_) | (with_reducible refine (HW4.out _).mono ?_) | (with_reducible refine (HW5.out _).mono ?_)); rintro e w5 ⟨rfl, rfl⟩))
      go_ret
      exact ⟨by rw [HVF.out]; rfl, (HK.out.up (below_box _ _)).hb⟩
     | true =>
      cases q4 with
      | false =>
       have HVF : Hid (V = false) := Lib.hid (HD.out.trans (by simp))
       go_wp2_with (first | (go_at_call 23; (first | (with_reducible refine (HW2.out _).mono ?_) | (with_reducible refine (HW3.out _).mono ?_) | (with_reducible refine (HW4.out _).mono ?_) | (with_reducible refine (HW5.out _).mono ?_)); rintro e w5 ⟨rfl, rfl⟩))
       go_ret
       exact ⟨by rw [HVF.out]; rfl, (HK.out.up (below_box _ _)).hb⟩
      | true =>
       cases q5 with
       | false =>
        have HVF : Hid (V = false) := Lib.hid (HD.out.trans (by simp))
        go_wp2_with (first | (go_at_call 23; (first | (with_reducible refine (HW2.out _).mono ?_) | (with_reducible refine (HW3.out _).mono ?_) | (with_reducible refine (HW4.out _).mono ?_) | (with_reducible refine (HW5.out _).mono ?_)); rintro e w5 ⟨rfl, rfl⟩))
        go_ret
        exact ⟨by rw [HVF.out]; rfl, (HK.out.up (below_box _ _)).hb⟩
       | true =>
        go_wp2_with (first | (go_at_call 23; (first | (with_reducible refine (HW2.out _).mono ?_) | (with_reducible refine (HW3.out _).mono ?_) | (with_reducible refine (HW4.out _).mono ?_) | (with_reducible refine (HW5.out _).mono ?_)); rintro e w5 ⟨rfl, rfl⟩))
        go_roundw
        case rel => exact ⟨k + 1, by omega, by go_num, Lib.hid (HD.out.trans (by simp)), Lib.hid (HK.out.up (below_box _ _))⟩
        case measure => simp [intOf]; omega
  ·obtain rfl : k = c.dems.length := by omega
   have HVT : Hid (V = true) := Lib.hid (HR.out.trans (by simp))
   go_wp2_with fail
   go_ret
   exact ⟨by rw [HVT.out]; rfl, HK.out.hb⟩
def segB (n : Int) (m : Nat) (s : Int × Int) : Bool := if s.1 = 1 then wB s.2 0 (n - 1) else if s.1 = 2 then wB s.2 0 (2 * (m : Int) - 1) else if s.1 = 3 then wB s.2 1 64 else if s.1 = 4 then wB s.2 0 65535 else false
def polB (n : Int) (m : Nat) (p : Int × Int × List (Int × Int)) : Bool := wB p.1 0 (n - 1) && (wB p.2.1 0 65535 && (decide (p.2.2.length ≤ 32) && p.2.2.all (segB n m)))
def polK (n : Int) (m : Nat) : List (Int × Int) → List (Int × Int × List (Int × Int)) → Bool
 | _, [] => true
 | seen, p :: r => !(decide ((p.1, p.2.1) ∈ seen)) && (polB n m p && polK n m (seen ++ [(p.1, p.2.1)]) r)
def polsB (n : Int) (m : Nat) (ps : List (Int × Int × List (Int × Int))) : Bool := decide (ps.length ≤ 64) && polK n m [] ps
set_option maxHeartbeats 4000000 in
set_option maxRecDepth 100000 in
theorem cfg_validSegment (n : Int) (hn1 : 1 ≤ n) (hn2 : n ≤ 64) (m o : Nat) (hm : m ≤ 256) (A1 A2 : Option Addr) (c1 c2 : Nat) (s : Int × Int) (w : World) : Calls Tryz.prog 51 #[.agg #[.int .i64 n, .slice A1 o c1, .slice A2 m c2], .agg #[.int .i64 s.1, .int .i64 s.2]] w fun e w' => e = .returned (.bool (segB n m s)) ∧ Below w.heap.size w w' := by
 have HB := below_next (below_box w (.cells #[.int .i64 n, .slice A1 o c1, .slice A2 m c2] 27)) (below_box _ (.cells #[.int .i64 s.1, .int .i64 s.2] 78))
 obtain ⟨x, y⟩ := s
 simp only at HB ⊢
 by_cases h1 : x = 1
 ·subst h1
  go_enter Tryz.func51, Tryz.ntmps51
  go_wp2_with (go_at_call 23; refine (cfg_withinB _ _ _ _).mono ?_; rintro e w1 ⟨rfl, rfl⟩)
  go_ret
  exact ⟨by simp [segB], HB⟩
 by_cases h2 : x = 2
 ·subst h2
  clear h1
  go_enter Tryz.func51, Tryz.ntmps51
  go_wp2_with (go_at_call 23; refine (cfg_withinB _ _ _ _).mono ?_; rintro e w1 ⟨rfl, rfl⟩)
  go_ret
  exact ⟨by simp [segB], HB⟩
 by_cases h3 : x = 3
 ·subst h3
  clear h1
  clear h2
  go_enter Tryz.func51, Tryz.ntmps51
  go_wp2_with (go_at_call 23; refine (cfg_withinB _ _ _ _).mono ?_; rintro e w1 ⟨rfl, rfl⟩)
  go_ret
  exact ⟨by simp [segB], HB⟩
 by_cases h4 : x = 4
 ·subst h4
  clear h1
  clear h2
  clear h3
  go_enter Tryz.func51, Tryz.ntmps51
  go_wp2_with (go_at_call 23; refine (cfg_withinB _ _ _ _).mono ?_; rintro e w1 ⟨rfl, rfl⟩)
  go_ret
  exact ⟨by simp [segB], HB⟩
 have z1 : (x == 1) = false := by rw [beq_eq_false_iff_ne]; exact h1
 have z2 : (x == 2) = false := by rw [beq_eq_false_iff_ne]; exact h2
 have z3 : (x == 3) = false := by rw [beq_eq_false_iff_ne]; exact h3
 have z4 : (x == 4) = false := by rw [beq_eq_false_iff_ne]; exact h4
 have HF : Hid (segB n m (x, y) = false) := Lib.hid (by simp [segB, h1, h2, h3, h4])
 clear h1 h2 h3 h4
 go_enter Tryz.func51, Tryz.ntmps51
 go_wp2_with fail
 go_ret
 exact ⟨by rw [HF.out]; rfl, HB⟩
end Go.Proofs.YtfimacgmciogmaaGreatDoor
namespace Go.Proofs.YtfimacgmciogmaaGreatDoor
set_option linter.unusedSimpArgs false
set_option linter.unusedVariables false
open Go.RowKit Go.Shelf Go.Sort
/-- A boxed configuration beside a map of pairs. -/
structure KM (w : World) (n : Int) (r : Rws) (c : Cf) (seen : List (Int × Int)) (W : World) : Prop where
 k : KC 33 w n r c W
 m : MapAt Tryz.prog 42 (w.heap.size + 1) (polL seen) W
theorem KM.up {w : World} {n : Int} {r : Rws} {c : Cf} {seen : List (Int × Int)} {W W' : World} (h : KM w n r c seen W) (hb : Below W.heap.size W W') : KM w n r c seen W' := ⟨h.k.up hb, h.m.kept (hb.block _ h.m.lt)⟩
theorem KC.grown {T : TypeId} {w : World} {n : Int} {r : Rws} {c : Cf} {W W' : World} {b : Nat} (hc : CAt w r c) (h : KC T w n r c W) (hg : W.grownBy W' (some b)) (hb : w.heap.size < b) : KC T w n r c W' := by
 have hlt := h.lt
 have hB : Below w.heap.size w W' := h.hb.trans ⟨hg.os, hg.tape, hg.output, hg.size, fun k hk => hg.block k (Nat.lt_trans hk hlt) (fun e => Nat.ne_of_lt (Nat.lt_trans hk hb) (Option.some.inj e))⟩
 exact ⟨(hg.block _ hlt (fun e => Nat.ne_of_lt hb (Option.some.inj e))).trans h.b, hc.below hB, hB⟩
theorem KM.store {w : World} {n : Int} {r : Rws} {c : Cf} {seen : List (Int × Int)} {W : World} (hc : CAt w r c) (h : KM w n r c seen W) (x y : Int) (hx : inI x) (hy : inI y) (hm : (x, y) ∉ seen) : ∃ W', (Instr.mapUpdate 49 (.map (some (w.heap.size + 1))) (.agg #[.int .i64 x, .int .i64 y]) (.bool true)).run Tryz.prog W = .ok () W' ∧ KM w n r c (seen ++ [(x, y)]) W' ∧ ∀ k, k ≠ w.heap.size + 1 → k < W.heap.size → W'.heap[k]? = W.heap[k]? := by
 obtain ⟨W', h1, h2, h3⟩ := two_store h.m x y hx hy hm
 exact ⟨W', h1, ⟨h.k.grown hc h3 (by omega), h2⟩, fun k hk hl => h3.block k hl (fun e => hk (Option.some.inj e))⟩
theorem polK_cons (n : Int) (m : Nat) (seen : List (Int × Int)) (p : Int × Int × List (Int × Int)) (q : List (Int × Int × List (Int × Int))) : polK n m seen (p :: q) = (!(decide ((p.1, p.2.1) ∈ seen)) && (polB n m p && polK n m (seen ++ [(p.1, p.2.1)]) q)) := rfl
def pkey (p : Int × Int × List (Int × Int)) : Int × Int := (p.1, p.2.1)
theorem take_key {ps : List (Int × Int × List (Int × Int))} {k : Nat} (hk : k < ps.length) : (ps.take (k + 1)).map pkey = (ps.take k).map pkey ++ [pkey ps[k]] := by
 rw [List.take_succ_eq_append_getElem hk, List.map_append]; rfl
theorem polK_step {n : Int} {m : Nat} {ps : List (Int × Int × List (Int × Int))} {k : Nat} (hk : k < ps.length) : polK n m ((ps.take k).map pkey) (ps.drop k) = (!(decide (pkey ps[k] ∈ (ps.take k).map pkey)) && (polB n m ps[k] && polK n m ((ps.take (k + 1)).map pkey) (ps.drop (k + 1)))) := by
 rw [List.drop_eq_getElem_cons hk, polK_cons, take_key hk]
 rfl
set_option maxHeartbeats 16000000 in
set_option maxRecDepth 100000 in
theorem cfg_validPolicies (n : Int) (r : Rws) (c : Cf) (hn1 : 1 ≤ n) (hn2 : n ≤ 64) (hm : c.links.length ≤ 256) (hd : c.pols.length ≤ maxLen) (hI : ∀ p ∈ c.pols, inI p.1 ∧ inI p.2.1) (w : World) (h : CAt w r c) : Calls Tryz.prog 25 #[.agg (cfCells n r c)] w fun e w' => e = .returned (.bool (polsB n c.links.length c.pols)) ∧ Below w.heap.size w w' := by
 unfold maxLen at hd
 obtain ⟨V, hV⟩ : ∃ V, V = polsB n c.links.length c.pols := ⟨_, rfl⟩
 rw [← hV]
 have HV := Lib.hid hV
 have HI := Lib.hid hI
 have HCW := Lib.hid h
 have HK := Lib.hid (KC.start 33 w n r c h)
 have p6 : (w.alloc (.cells (cfCells n r c) 33)).cell? ⟨w.heap.size, 6, none⟩ = some (.slice r.aQ c.pols.length r.cQ) := HK.out.p 6
 obtain ⟨A, hAe⟩ : ∃ A, A = r.aQ := ⟨_, rfl⟩
 rw [← hAe] at p6
 have HAE := Lib.hid hAe
 clear hV h hAe hI
 have hmm := @run_makeMap Tryz.prog
 by_cases hl : (64 : Int) < (c.pols.length : Int)
 ·have HVF : Hid (V = false) := Lib.hid (by rw [HV.out, polsB, decide_eq_false (by omega)]; rfl)
  go_enter Tryz.func25, Tryz.ntmps25
  go_wp2_with fail
  go_ret
  exact ⟨by rw [HVF.out]; rfl, HK.out.hb⟩
 have HVA : Hid (V = polK n c.links.length ((c.pols.take 0).map pkey) (c.pols.drop 0)) := Lib.hid (by rw [HV.out, polsB, decide_eq_true (by omega)]; rfl)
 have HM : Hid (KM w n r c [] ((w.alloc (.cells (cfCells n r c) 33)).alloc (.map #[] 0))) := Lib.hid ⟨HK.out.up (below_box _ _), by have := MapAt.made Tryz.prog 42 (w.alloc (.cells (cfCells n r c) 33)); simpa [polL] using this⟩
 have p6b : ((w.alloc (.cells (cfCells n r c) 33)).alloc (.map #[] 0)).cell? ⟨w.heap.size, 6, none⟩ = some (.slice A c.pols.length r.cQ) := cell_up (below_box _ _) p6
 clear HV
 go_enter Tryz.func25, Tryz.ntmps25
 go_wp2_with fail
 go_loopw [17] (fun i wr => ∃ k : Nat, k ≤ c.pols.length ∧ i = .int .i64 k ∧ Hid (V = polK n c.links.length ((c.pols.take k).map pkey) (c.pols.drop k)) ∧ Hid (KM w n r c ((c.pols.take k).map pkey) wr)) (fun i _ => c.pols.length - (intOf i).toNat)
 case atStart => exact ⟨0, Nat.zero_le _, rfl, HVA, HM⟩
 case round =>
  clear HK HM HVA p6 p6b hmm
  obtain ⟨k, hk, rfl, HR, HK⟩ := hrel
  by_cases hlt : k < c.pols.length
  ·have hlt3 := HK.out.k.lt
   have hlt4 := HK.out.m.lt
   have hne3 : w.heap.size ≠ wr.heap.size := Nat.ne_of_lt hlt3
   have hne4 : wr.heap.size ≠ w.heap.size := Nat.ne_of_gt hlt3
   have p2 : wr.cell? ⟨w.heap.size, 2, none⟩ = some (.int .i64 n) := HK.out.k.p 2
   have hz1 : k < (c.pols.zip r.ls).length := by rw [List.length_zip, HK.out.k.c1.ll]; omega
   obtain ⟨b, o, hA, hc⟩ := HK.out.k.c1.q.flat 3 (fun _ => rfl) (by decide) hz1
   have hs1 := HCW.out.s _ (List.getElem_mem hz1)
   have hst := polK_step (n := n) (m := c.links.length) hlt
   have HIK := Lib.hid (HI.out _ (List.getElem_mem hlt))
   have HTK0 := Lib.hid (take_key hlt)
   have hA2 := HAE.out.trans hA
   have hlk1 : k < r.ls.length := by rw [HK.out.k.c1.ll]; exact hlt
   simp only [List.getElem_zip] at hc hs1
   obtain ⟨x, hx⟩ : ∃ x, x = c.pols[k] := ⟨_, rfl⟩
   obtain ⟨y, hy⟩ : ∃ y, y = r.ls[k] := ⟨_, rfl⟩
   rw [← hx] at hc hs1 hst HIK HTK0
   rw [← hy] at hc hs1
   clear hA hx hy hlk1 hz1
   subst hA2
   obtain ⟨x0, x1, l⟩ := x
   obtain ⟨A2, ca⟩ := y
   simp only at hs1
   obtain ⟨hs0, hlm⟩ := hs1
   unfold maxLen at hlm
   have HG := Lib.hid hs0
   have HTK : Hid ((c.pols.take (k + 1)).map pkey = (c.pols.take k).map pkey ++ [(x0, x1)]) := Lib.hid HTK0.out
   clear HTK0
   have d0 : wr.cell? ⟨b, o + k * 3, none⟩ = some (.int .i64 x0) := hc 0 _ rfl
   have d1 : wr.cell? ⟨b, o + k * 3 + 1, none⟩ = some (.int .i64 x1) := hc 1 _ rfl
   have d2 : wr.cell? ⟨b, o + k * 3 + 2, none⟩ = some (.slice A2 l.length ca) := hc 2 _ rfl
   obtain ⟨q1, z1⟩ : ∃ q, decide ((x0, x1) ∈ (c.pols.take k).map pkey) = q := ⟨_, rfl⟩
   obtain ⟨q2, z2⟩ : ∃ q, wB x0 0 (n - 1) = q := ⟨_, rfl⟩
   obtain ⟨q3, z3⟩ : ∃ q, wB x1 0 65535 = q := ⟨_, rfl⟩
   obtain ⟨q4, z4⟩ : ∃ q, decide (l.length ≤ 32) = q := ⟨_, rfl⟩
   have z4b : decide (32 < (l.length : Int)) = !q4 := by rw [← z4]; by_cases h : l.length ≤ 32 <;> simp [h] <;> omega
   obtain ⟨RST, hRST⟩ : ∃ q, q = polK n c.links.length ((c.pols.take (k + 1)).map pkey) (c.pols.drop (k + 1)) := ⟨_, rfl⟩
   have HRST := Lib.hid hRST
   have HST : Hid (polK n c.links.length ((c.pols.take k).map pkey) (c.pols.drop k) = (!q1 && ((q2 && (q3 && (q4 && l.all (segB n c.links.length)))) && RST))) := Lib.hid (by rw [hst, hRST, ← z1, ← z2, ← z3, ← z4]; simp [polB, pkey])
   have HW2 : Hid (∀ W, Calls Tryz.prog 23 #[.int .i64 x0, .int .i64 0, .int .i64 (n - 1)] W fun e W' => e = .returned (.bool q2) ∧ W = W') := Lib.hid fun W => by rw [← z2]; exact cfg_withinB _ _ _ W
   have HW3 : Hid (∀ W, Calls Tryz.prog 23 #[.int .i64 x1, .int .i64 0, .int .i64 65535] W fun e W' => e = .returned (.bool q3) ∧ W = W') := Lib.hid fun W => by rw [← z3]; exact cfg_withinB _ _ _ W
   have HD : Hid (V = (!q1 && ((q2 && (q3 && (q4 && l.all (segB n c.links.length)))) && RST))) := Lib.hid (HR.out.trans HST.out)
   clear HR HST hst hc z2 z3 z4
   have HK2 := Lib.hid ((HK.out.up (below_box wr (.cells #[.int .i64 x0, .int .i64 x1, .slice A2 l.length ca] 76))).up (below_box _ (.cells #[.int .i64 x0, .int .i64 x1] 42)))
   have hlk := two_look HK2.out.m x0 x1 HIK.out.1 HIK.out.2
   rw [z1] at hlk
   have HZ1 := Lib.hid z1
   clear z1 HAE hs0
   cases q1 with
   | true =>
    have HVF : Hid (V = false) := Lib.hid (HD.out.trans (by simp))
    go_wp2_with (first | (go_at_call 23; (first | (with_reducible refine (HW2.out _).mono ?_) | (with_reducible refine (HW3.out _).mono ?_)); rintro e w5 ⟨rfl, rfl⟩))
    go_ret
    exact ⟨by rw [HVF.out]; rfl, HK2.out.k.hb⟩
   | false =>
    cases q2 with
    | false =>
     have HVF : Hid (V = false) := Lib.hid (HD.out.trans (by simp))
     go_wp2_with (first | (go_at_call 23; (first | (with_reducible refine (HW2.out _).mono ?_) | (with_reducible refine (HW3.out _).mono ?_)); rintro e w5 ⟨rfl, rfl⟩))
     go_ret
     exact ⟨by rw [HVF.out]; rfl, HK2.out.k.hb⟩
    | true =>
     cases q3 with
     | false =>
      have HVF : Hid (V = false) := Lib.hid (HD.out.trans (by simp))
      go_wp2_with (first | (go_at_call 23; (first | (with_reducible refine (HW2.out _).mono ?_) | (with_reducible refine (HW3.out _).mono ?_)); rintro e w5 ⟨rfl, rfl⟩))
      go_ret
      exact ⟨by rw [HVF.out]; rfl, HK2.out.k.hb⟩
     | true =>
      cases q4 with
      | false =>
       simp only [Bool.not_false] at z4b
       have HVF : Hid (V = false) := Lib.hid (HD.out.trans (by simp))
       go_wp2_with (first | (go_at_call 23; (first | (with_reducible refine (HW2.out _).mono ?_) | (with_reducible refine (HW3.out _).mono ?_)); rintro e w5 ⟨rfl, rfl⟩))
       go_ret
       exact ⟨by rw [HVF.out]; rfl, HK2.out.k.hb⟩
      | true =>
       simp only [Bool.not_true] at z4b
       obtain ⟨W3, hup, hk3, hk4⟩ := HK2.out.store HCW.out x0 x1 HIK.out.1 HIK.out.2 (of_decide_eq_false HZ1.out)
       have HK3 := Lib.hid hk3
       have hb3 : W3.heap[wr.heap.size]? = some (Obj.cells #[.int .i64 x0, .int .i64 x1, .slice A2 l.length ca] 76 (0, 0)) := (hk4 _ (by omega) (by simp; omega)).trans (by rw [Lib.alloc_old _ _ _ (by simp)]; exact heap_alloc_new _ _)
       have c2 : W3.cell? ⟨wr.heap.size, 2, none⟩ = some (.slice A2 l.length ca) := Lib.cell_of_heap hb3 2
       have hg3 : ∀ kk, kk ≠ w.heap.size + 1 → kk < w.heap.size + 1 → True := fun _ _ _ => trivial
       clear hk3 hk4 hb3 HK HK2 hg3
       go_wp2_with (first | (go_at_call 23; (first | (with_reducible refine (HW2.out _).mono ?_) | (with_reducible refine (HW3.out _).mono ?_)); rintro e w5 ⟨rfl, rfl⟩))
       go_loopw [56] (fun i wx => ∃ j : Nat, j ≤ l.length ∧ i = .int .i64 j ∧ Hid (V = ((l.drop j).all (segB n c.links.length) && RST)) ∧ Hid (KM w n r c ((c.pols.take k).map pkey ++ [(x0, x1)]) wx)) (fun i _ => l.length - (intOf i).toNat)
       case atStart => exact ⟨0, Nat.zero_le _, rfl, Lib.hid (HD.out.trans (by simp)), HK3⟩
       case round =>
        clear HK3 HD c2
        obtain ⟨j, hj, rfl, HD, HK⟩ := hrel
        by_cases hlj : j < l.length
        ·obtain ⟨b, o, hA, hc⟩ := (HG.out.below HK.out.k.hb).flat 2 (fun _ => rfl) (by decide) hlj
         have HDJ := Lib.hid (HD.out.trans (by rw [List.drop_eq_getElem_cons hlj, List.all_cons]))
         have HSG := Lib.hid (fun W => cfg_validSegment n hn1 hn2 c.links.length c.ov.length hm r.aO r.aK r.cO r.cK l[j] W)
         clear HG HD
         subst hA
         generalize l[j] = y at hc HDJ HSG
         obtain ⟨y0, y1⟩ := y
         have d0 := hc 0 _ rfl
         have d1 := hc 1 _ rfl
         simp only [Nat.add_zero] at d0
         obtain ⟨qs, zs⟩ : ∃ q, q = segB n c.links.length (y0, y1) := ⟨_, rfl⟩
         rw [← zs] at HDJ HSG
         have hlt5 := HK.out.k.lt
         have f2 := HK.out.k.p 2
         have f3 := HK.out.k.p 3
         have f4 := HK.out.k.p 4
         change _ = some (Value.int .i64 n) at f2
         change _ = some (Value.slice r.aO c.ov.length r.cO) at f3
         change _ = some (Value.slice r.aK c.links.length r.cK) at f4
         have hne5 := Nat.ne_of_lt hlt5
         have hne6 := Nat.ne_of_gt hlt5
         clear hc zs
         cases qs with
         | false =>
          have HVF : Hid (V = false) := Lib.hid (HDJ.out.trans (by simp))
          go_wp2_with (go_at_call 51; (with_reducible refine (HSG.out _).mono ?_); rintro e w6 ⟨rfl, hb6⟩; replace HK := Lib.hid ((HK.out.up (below_box _ _)).up hb6); clear hb6)
          go_ret
          exact ⟨by rw [HVF.out]; rfl, HK.out.k.hb⟩
         | true =>
          go_wp2_with (go_at_call 51; (with_reducible refine (HSG.out _).mono ?_); rintro e w6 ⟨rfl, hb6⟩; replace HK := Lib.hid ((HK.out.up (below_box _ _)).up hb6); clear hb6)
          go_roundw
          case rel => exact ⟨j + 1, by omega, by go_num, Lib.hid (HDJ.out.trans (by simp)), HK⟩
          case measure => simp [intOf]; omega
        ·obtain rfl : j = l.length := by omega
         go_wp2_with fail
         go_roundw
         case rel => exact ⟨k + 1, by omega, by go_num, Lib.hid (HD.out.trans (by rw [HRST.out]; simp)), Lib.hid (by rw [HTK.out]; exact HK.out)⟩
         case measure => simp [intOf]; omega
  ·obtain rfl : k = c.pols.length := by omega
   have HVT : Hid (V = true) := Lib.hid (HR.out.trans (by simp [polK]))
   go_wp2_with fail
   go_ret
   exact ⟨by rw [HVT.out]; rfl, HK.out.k.hb⟩
end Go.Proofs.YtfimacgmciogmaaGreatDoor
namespace Go.Proofs.YtfimacgmciogmaaGreatDoor
set_option linter.unusedSimpArgs false
set_option linter.unusedVariables false
open Go.RowKit Go.Shelf Go.Sort Go.ChangeMaps Go.MapKept
open Go.Maps (Keyed)
/-- An entry gets a new value. -/
theorem MapAt.over {P : Program} {k e t : TypeId} {b : Nat} {L : List (Value × Value)} {w : World} (h : MapAt P k b L w) (K : Keyed P k) (ht : P.underlying t = some (.map k e)) {key v0 : Value} {kl : Lit} (hkey : keyOf P k key = some kl) (hs : Instr.sameBits 10000 key key = true) (v : Value)
  (hm : (key, v0) ∈ L) : ∃ w' j, (Instr.mapUpdate t (.map (some b)) key v).run P w = .ok () w' ∧ L[j]? = some (key, v0) ∧ MapAt P k b (L.set j (key, v)) w' ∧ w.grownBy w' (some b) := by
 obtain ⟨es, clock, hb, rfl, hk, hn⟩ := h
 obtain ⟨e1, he1, h11⟩ := List.mem_map.1 hm
 injection h11 with h11 h12
 rcases K.find w hkey es.toList (fun e he => hk (e.key, e.val) (List.mem_map.2 ⟨e, he, rfl⟩)) with ⟨h1, h2⟩ | ⟨j, e0, h1, h2, h3⟩
 ·exact absurd h11 (h2 e1 he1)
 ·obtain ⟨hj1, hj2⟩ := List.getElem?_eq_some_iff.1 h2
  have hv : e0.val = v0 := by
   obtain ⟨i, hi, rfl⟩ := List.getElem_of_mem he1
   have hn2 := hn
   rw [List.map_map] at hn2
   have := List.getElem_inj hn2 (i := i) (j := j) (h₀ := by simpa using hi) (h₁ := by simpa using hj1)
   simp only [List.getElem_map, Function.comp_apply] at this
   have e : i = j := this.1 (h11.trans (by rw [hj2]; exact h3.symm))
   subst e
   rw [← hj2]
   exact h12
  have hes : es[j]? = some e0 := by simpa using h2
  have hj4 : j < es.size := by simpa using hj1
  have hL : (es.toList.map fun e => (e.key, e.val))[j]? = some (key, v0) := by
   rw [List.getElem?_map, h2]
   simp [h3, hv]
  refine ⟨setBlock w b (.map (es.modify j fun e => { e with key := key, val := v }) clock), j, ?_, hL, ⟨_, _, heap_setBlock_same hb _, ?_, ?_, ?_⟩, ⟨rfl, rfl, rfl, by simp [setBlock], fun i _ hi => heap_setBlock_other hb _ (fun e => hi (by rw [e]))⟩⟩
  ·simp [Instr.mapUpdate, run_underlying ht, MapKept.run_getObj_map hb, K.check w false hkey, h1, hes, Instr.keyThatStays, h3, hs, MapKept.run_setObj_map _ hb, Result.andThen, setBlock]
  ·apply List.ext_getElem?
   intro i
   rw [List.getElem?_set]
   simp only [List.getElem?_map, Array.getElem?_toList, Array.getElem?_modify]
   by_cases hij : j = i
   ·subst hij
    rw [hes]
    have hj3 : j < (es.toList.map fun e => (e.key, e.val)).length := by simpa using hj1
    simp [hj4]
   ·simp [hij]
  ·intro x hx
   rcases List.mem_or_eq_of_mem_set hx with hx | rfl
   ·exact hk x hx
   ·exact ⟨_, hkey⟩
  ·have : ((es.toList.map fun e => (e.key, e.val)).set j (key, v)).map (·.1) = (es.toList.map fun e => (e.key, e.val)).map (·.1) := by
    rw [List.map_set]
    apply List.ext_getElem?
    intro i
    rw [List.getElem?_set]
    by_cases hij : j = i
    ·subst hij
     have := hL
     simp only [List.getElem?_map, h2] at this ⊢
     simp [h3, hj4]
    ·simp [hij]
   rw [this]
   exact hn
def cV (p : Int × Int) : Value × Value := (.int .i64 p.1, .int .i64 p.2)
/-- Block b counts the numbers of a list. -/
def CM (b : Nat) (vals : List Int) (W : World) : Prop :=
 ∃ l : List (Int × Int), MapAt Tryz.prog 3 b (l.map cV) W ∧ (∀ p ∈ l, p.2 = (vals.count p.1 : Int)) ∧ ∀ v, (∀ p ∈ l, p.1 ≠ v) → vals.count v = 0
theorem CM.kept {b : Nat} {vals : List Int} {w w' : World} (h : CM b vals w) (hb : w'.heap[b]? = w.heap[b]?) : CM b vals w' := by
 obtain ⟨l, h1, h2⟩ := h
 exact ⟨l, h1.kept hb, h2⟩
theorem CM.lt {b : Nat} {vals : List Int} {w : World} (h : CM b vals w) : b < w.heap.size := by
 obtain ⟨l, h1, h2⟩ := h
 exact h1.lt
theorem key_int : Keyed Tryz.prog 3 := Go.Maps.int_keyed Tryz.underlying3
theorem zero_int (w : World) : (zeroValue 3).run Tryz.prog w = .ok (.int .i64 0) w := by kernel_rfl
theorem CM.look {b : Nat} {vals : List Int} {W : World} (h : CM b vals W) (v : Int) (hv : inI v) : (Instr.lookup 113 (.map (some b)) (.int .i64 v) false).run Tryz.prog W = .ok (.int .i64 (vals.count v : Int)) W := by
 obtain ⟨l, h1, h2, h3⟩ := h
 have hk := Go.Maps.keyOf_int_mk (P := Tryz.prog) Tryz.underlying3 (wf_i64 hv)
 by_cases hm : ∃ p ∈ l, p.1 = v
 ·obtain ⟨p, hp, rfl⟩ := hm
  rw [← h2 p hp]
  exact h1.hit key_int Tryz.underlying113 hk false (List.mem_map.2 ⟨p, hp, rfl⟩)
 ·rw [h3 v (fun p hp e => hm ⟨p, hp, e⟩)]
  refine h1.miss key_int Tryz.underlying113 (zero_int W) hk false (fun z hz e => hm ?_)
  obtain ⟨p, hp, rfl⟩ := List.mem_map.1 hz
  exact ⟨p, hp, by simpa [cV] using e⟩
theorem CM.more {b : Nat} {vals : List Int} {W : World} (h : CM b vals W) (v : Int) (hv : inI v) : ∃ W', (Instr.mapUpdate 113 (.map (some b)) (.int .i64 v) (.int .i64 ((vals.count v : Int) + 1))).run Tryz.prog W = .ok () W' ∧ CM b (vals ++ [v]) W' ∧ W.grownBy W' (some b) := by
 obtain ⟨l, h1, h2, h3⟩ := h
 have hk := Go.Maps.keyOf_int_mk (P := Tryz.prog) Tryz.underlying3 (wf_i64 hv)
 by_cases hm : ∃ p ∈ l, p.1 = v
 ·obtain ⟨p, hp, rfl⟩ := hm
  obtain ⟨W', j, e1, e2, e3, e4⟩ := h1.over key_int Tryz.underlying113 hk (by simp [Instr.sameBits]) (.int .i64 ((vals.count p.1 : Int) + 1)) (List.mem_map.2 ⟨p, hp, rfl⟩)
  have hnd := h1
  obtain ⟨_, _, _, _, _, hn⟩ := hnd
  rw [List.getElem?_map] at e2
  obtain ⟨p2, hp2, hp3⟩ := Option.map_eq_some_iff.1 e2
  obtain ⟨hj, hjp⟩ := List.getElem?_eq_some_iff.1 hp2
  have hp1 : p2.1 = p.1 := by have := congrArg Prod.fst hp3; simpa [cV] using this
  refine ⟨W', e1, ⟨l.set j (p.1, (vals.count p.1 : Int) + 1), ?_, ?_, ?_⟩, e4⟩
  ·rw [List.map_set]; exact e3
  ·intro q hq
   obtain ⟨i, hi, rfl⟩ := List.getElem_of_mem hq
   rw [List.getElem_set]
   by_cases hij : j = i
   ·rw [if_pos hij]
    simp
   ·rw [if_neg hij]
    have hi2 : i < l.length := by simpa using hi
    have hne : l[i].1 ≠ p.1 := by
     intro e
     rw [List.map_map] at hn
     have := List.getElem_inj hn (i := i) (j := j) (h₀ := by simpa using hi2) (h₁ := by simpa using hj)
     simp only [List.getElem_map, Function.comp_apply, cV] at this
     exact hij (this.1 (by rw [e, ← hp1, hjp])).symm
    rw [List.count_append, h2 _ (List.getElem_mem hi2)]
    have : List.count l[i].1 [p.1] = 0 := List.count_eq_zero_of_not_mem (by simp; exact hne)
    rw [this]; simp
  ·intro u hu
   have hup : u ≠ p.1 := by
    have := hu (p.1, (vals.count p.1 : Int) + 1) (List.mem_set hj _)
    exact fun e => this e.symm
   rw [List.count_append, List.count_eq_zero_of_not_mem (l := [p.1]) (by simp; exact hup), Nat.add_zero]
   refine h3 u (fun q hq e => ?_)
   obtain ⟨i, hi, rfl⟩ := List.getElem_of_mem hq
   by_cases hij : j = i
   ·subst hij
    rw [hjp, hp1] at e
    exact hup e.symm
   ·refine hu l[i] ?_ e
    have : (l.set j (p.1, (vals.count p.1 : Int) + 1))[i]'(by simpa using hi) = l[i] := by rw [List.getElem_set_ne hij]
    rw [← this]
    exact List.getElem_mem _
 ·have h0 := h3 v (fun p hp e => hm ⟨p, hp, e⟩)
  obtain ⟨W', e1, e2, e3⟩ := h1.store key_int Tryz.underlying113 hk (.int .i64 ((vals.count v : Int) + 1)) (fun z hz e => hm (by
   obtain ⟨p, hp, rfl⟩ := List.mem_map.1 hz
   exact ⟨p, hp, by simpa [cV] using e⟩))
  refine ⟨W', e1, ⟨l ++ [(v, (vals.count v : Int) + 1)], ?_, ?_, ?_⟩, e3⟩
  ·rw [List.map_append]; exact e2
  ·intro q hq
   rcases List.mem_append.1 hq with hq | hq
   ·have hne : q.1 ≠ v := fun e => hm ⟨q, hq, e⟩
    rw [List.count_append, h2 q hq, List.count_eq_zero_of_not_mem (l := [v]) (by simp; exact hne)]
    simp
   ·simp at hq; subst hq; simp
  ·intro u hu
   have hne : u ≠ v := fun e => hu (v, (vals.count v : Int) + 1) (by simp) e.symm
   rw [List.count_append, List.count_eq_zero_of_not_mem (l := [v]) (by simp; exact hne), Nat.add_zero]
   exact h3 u (fun p hp => hu p (by simp [hp]))
def fkey (p : Int × Int × Int) : Int × Int := (p.1, p.2.1)
def pfK (n : Int) : List (Int × Int) → List Int → List (Int × Int × Int) → Bool
 | _, _, [] => true
 | seen, vals, p :: r => pvalB p.1 p.2.1 && (!(decide (fkey p ∈ seen)) && (wB p.2.2 0 (n - 1) && (decide (vals.count p.2.2 + 1 ≤ 64) && pfK n (seen ++ [fkey p]) (vals ++ [p.2.2]) r)))
def prefsB (n : Int) (ps : List (Int × Int × Int)) : Bool := pfK n [] [] ps
theorem pfK_iff (n : Int) : ∀ (ps : List (Int × Int × Int)) (seen : List (Int × Int)) (vals : List Int), pfK n seen vals ps = true ↔
  (∀ p ∈ ps, pvalB p.1 p.2.1 = true ∧ wB p.2.2 0 (n - 1) = true) ∧ (∀ p ∈ ps, fkey p ∉ seen) ∧ (ps.map fkey).Nodup ∧ ∀ v ∈ ps.map (·.2.2), (vals ++ ps.map (·.2.2)).count v ≤ 64
 | [], seen, vals => by simp [pfK]
 | p :: r, seen, vals => by
  have ih := pfK_iff n r (seen ++ [fkey p]) (vals ++ [p.2.2])
  simp only [pfK, Bool.and_eq_true, Bool.not_eq_true', decide_eq_false_iff_not, decide_eq_true_eq, ih]
  constructor
  ·rintro ⟨h1, h2, h3, h4, h5, h6, h7, h8⟩
   refine ⟨?_, ?_, ?_, ?_⟩
   ·intro q hq
    rcases List.mem_cons.1 hq with rfl | hq
    ·exact ⟨h1, h3⟩
    ·exact h5 q hq
   ·intro q hq
    rcases List.mem_cons.1 hq with rfl | hq
    ·exact h2
    ·exact fun e => h6 q hq (by simp [e])
   ·rw [List.map_cons, List.nodup_cons]
    refine ⟨fun e => ?_, h7⟩
    obtain ⟨q, hq, hqe⟩ := List.mem_map.1 e
    exact h6 q hq (by rw [hqe]; simp)
   ·intro v hv
    rw [List.map_cons]
    rw [show vals ++ p.2.2 :: r.map (·.2.2) = (vals ++ [p.2.2]) ++ r.map (·.2.2) by simp]
    by_cases hm : v ∈ r.map (·.2.2)
    ·exact h8 v hm
    ·rw [List.map_cons] at hv
     rcases List.mem_cons.1 hv with rfl | hv
     ·rw [List.count_append, List.count_eq_zero_of_not_mem hm, List.count_append, List.count_singleton_self]
      omega
     ·exact absurd hv hm
  ·rintro ⟨h1, h2, h3, h4⟩
   rw [List.map_cons, List.nodup_cons] at h3
   have hp := h1 p (by simp)
   refine ⟨hp.1, h2 p (by simp), hp.2, ?_, fun q hq => h1 q (by simp [hq]), ?_, h3.2, ?_⟩
   ·have := h4 p.2.2 (by simp)
    rw [List.count_append, List.map_cons, List.count_cons_self] at this
    omega
   ·intro q hq e
    rcases List.mem_append.1 e with e | e
    ·exact h2 q (by simp [hq]) e
    ·simp at e
     exact h3.1 (List.mem_map.2 ⟨q, hq, e⟩)
   ·intro v hv
    have := h4 v (by rw [List.map_cons]; exact List.mem_cons_of_mem _ hv)
    rw [List.map_cons] at this
    rw [show (vals ++ [p.2.2]) ++ r.map (·.2.2) = vals ++ p.2.2 :: r.map (·.2.2) by simp]
    exact this
theorem pfK_step {n : Int} {ps : List (Int × Int × Int)} {k : Nat} (hk : k < ps.length) : pfK n ((ps.take k).map fkey) ((ps.take k).map (·.2.2)) (ps.drop k) = (pvalB ps[k].1 ps[k].2.1 && (!(decide (fkey ps[k] ∈ (ps.take k).map fkey)) && (wB ps[k].2.2 0 (n - 1) && (decide (((ps.take k).map (·.2.2)).count ps[k].2.2 + 1 ≤ 64) && pfK n ((ps.take (k + 1)).map fkey) ((ps.take (k + 1)).map (·.2.2)) (ps.drop (k + 1)))))) := by
 rw [List.drop_eq_getElem_cons hk, List.take_succ_eq_append_getElem hk, List.map_append, List.map_append]
 rfl
/-- A boxed configuration beside the two maps. -/
structure KP (w : World) (n : Int) (r : Rws) (c : Cf) (seen : List (Int × Int)) (vals : List Int) (W : World) : Prop where
 k : KC 33 w n r c W
 m : MapAt Tryz.prog 70 (w.heap.size + 1) (pfxL seen) W
 q : CM (w.heap.size + 1 + 1) vals W
theorem KP.up {w : World} {n : Int} {r : Rws} {c : Cf} {seen : List (Int × Int)} {vals : List Int} {W W' : World} (h : KP w n r c seen vals W) (hb : Below W.heap.size W W') : KP w n r c seen vals W' := ⟨h.k.up hb, h.m.kept (hb.block _ h.m.lt), h.q.kept (hb.block _ h.q.lt)⟩
theorem KP.see {w : World} {n : Int} {r : Rws} {c : Cf} {seen : List (Int × Int)} {vals : List Int} {W : World} (hc : CAt w r c) (h : KP w n r c seen vals W) (x y : Int) (hx : 0 ≤ x ∧ x < 4294967296) (hy : inI y) (hm : (x, y) ∉ seen) : ∃ W', (Instr.mapUpdate 48 (.map (some (w.heap.size + 1))) (.agg #[.int .u32 x, .int .i64 y]) (.bool true)).run Tryz.prog W = .ok () W' ∧ KP w n r c (seen ++ [(x, y)]) vals W' ∧ ∀ k, k ≠ w.heap.size + 1 → k < W.heap.size → W'.heap[k]? = W.heap[k]? := by
 obtain ⟨W', h1, h2, h3⟩ := pfx_store h.m x y hx hy hm
 have e : ∀ k, k ≠ w.heap.size + 1 → k < W.heap.size → W'.heap[k]? = W.heap[k]? := fun k hk hl => h3.block k hl (fun e => hk (Option.some.inj e))
 exact ⟨W', h1, ⟨h.k.grown hc h3 (by omega), h2, h.q.kept (e _ (by omega) h.q.lt)⟩, e⟩
theorem KP.count {w : World} {n : Int} {r : Rws} {c : Cf} {seen : List (Int × Int)} {vals : List Int} {W : World} (hc : CAt w r c) (h : KP w n r c seen vals W) (v : Int) (hv : inI v) : ∃ W', (Instr.mapUpdate 113 (.map (some (w.heap.size + 1 + 1))) (.int .i64 v) (.int .i64 ((vals.count v : Int) + 1))).run Tryz.prog W = .ok () W' ∧ KP w n r c seen (vals ++ [v]) W' ∧ ∀ k, k ≠ w.heap.size + 1 + 1 → k < W.heap.size → W'.heap[k]? = W.heap[k]? := by
 obtain ⟨W', h1, h2, h3⟩ := h.q.more v hv
 have e : ∀ k, k ≠ w.heap.size + 1 + 1 → k < W.heap.size → W'.heap[k]? = W.heap[k]? := fun k hk hl => h3.block k hl (fun e => hk (Option.some.inj e))
 exact ⟨W', h1, ⟨h.k.grown hc h3 (by omega), h.m.kept (e _ (by omega) h.m.lt), h2⟩, e⟩
set_option maxHeartbeats 16000000 in
set_option maxRecDepth 100000 in
theorem cfg_validPrefixes (n : Int) (r : Rws) (c : Cf) (hn1 : 1 ≤ n) (hn2 : n ≤ 64) (hd : c.pfx.length ≤ maxLen) (hI : ∀ p ∈ c.pfx, (0 ≤ p.1 ∧ p.1 < 4294967296) ∧ inI p.2.1 ∧ inI p.2.2) (w : World) (h : CAt w r c) : Calls Tryz.prog 24 #[.agg (cfCells n r c)] w fun e w' => e = .returned (.bool (prefsB n c.pfx)) ∧ Below w.heap.size w w' := by
 unfold maxLen at hd
 obtain ⟨V, hV⟩ : ∃ V, V = prefsB n c.pfx := ⟨_, rfl⟩
 rw [← hV]
 have HV := Lib.hid hV
 have HI := Lib.hid hI
 have HCW := Lib.hid h
 have HK := Lib.hid (KC.start 33 w n r c h)
 have p5 : (w.alloc (.cells (cfCells n r c) 33)).cell? ⟨w.heap.size, 5, none⟩ = some (.slice r.aP c.pfx.length r.cP) := HK.out.p 5
 obtain ⟨A, hAe⟩ : ∃ A, A = r.aP := ⟨_, rfl⟩
 rw [← hAe] at p5
 have HAE := Lib.hid hAe
 clear hV h hAe hI
 have hmm := @run_makeMap Tryz.prog
 have HVA : Hid (V = pfK n ((c.pfx.take 0).map fkey) ((c.pfx.take 0).map (·.2.2)) (c.pfx.drop 0)) := Lib.hid (by rw [HV.out, prefsB]; rfl)
 have HM : Hid (KP w n r c [] [] (((w.alloc (.cells (cfCells n r c) 33)).alloc (.map #[] 0)).alloc (.map #[] 0))) := Lib.hid ⟨(HK.out.up (below_box _ _)).up (below_box _ _), (by have := MapAt.made Tryz.prog 70 (w.alloc (.cells (cfCells n r c) 33)); have e : (w.alloc (.cells (cfCells n r c) 33)).heap.size = w.heap.size + 1 := (by simp); rw [e] at this; exact this.kept (Lib.alloc_old _ _ _ (by simp))), ⟨[], (by have := MapAt.made Tryz.prog 3 ((w.alloc (.cells (cfCells n r c) 33)).alloc (.map #[] 0)); simpa using this), by simp, by simp⟩⟩
 have p5b : (((w.alloc (.cells (cfCells n r c) 33)).alloc (.map #[] 0)).alloc (.map #[] 0)).cell? ⟨w.heap.size, 5, none⟩ = some (.slice A c.pfx.length r.cP) := cell_up (below_box _ _) (cell_up (below_box _ _) p5)
 clear HV
 go_enter Tryz.func24, Tryz.ntmps24
 go_wp2_with fail
 go_loopw [12] (fun i wr => ∃ k : Nat, k ≤ c.pfx.length ∧ i = .int .i64 k ∧ Hid (V = pfK n ((c.pfx.take k).map fkey) ((c.pfx.take k).map (·.2.2)) (c.pfx.drop k)) ∧ Hid (KP w n r c ((c.pfx.take k).map fkey) ((c.pfx.take k).map (·.2.2)) wr)) (fun i _ => c.pfx.length - (intOf i).toNat)
 case atStart => exact ⟨0, Nat.zero_le _, rfl, HVA, HM⟩
 case round =>
  clear HK HM HVA p5 p5b hmm
  obtain ⟨k, hk, rfl, HR, HK⟩ := hrel
  by_cases hlt : k < c.pfx.length
  ·have hlt3 := HK.out.k.lt
   have hne3 : w.heap.size ≠ wr.heap.size := Nat.ne_of_lt hlt3
   have hne4 : wr.heap.size ≠ w.heap.size := Nat.ne_of_gt hlt3
   obtain ⟨b, o, hA, hc⟩ := HK.out.k.c1.p.flat 3 (fun _ => rfl) (by decide) hlt
   have HIK := Lib.hid (HI.out _ (List.getElem_mem hlt))
   have hA2 := HAE.out.trans hA
   have HST := Lib.hid (HR.out.trans (pfK_step hlt))
   have HTK1 : Hid ((c.pfx.take (k + 1)).map fkey = (c.pfx.take k).map fkey ++ [fkey c.pfx[k]]) := Lib.hid (by rw [List.take_succ_eq_append_getElem hlt, List.map_append]; rfl)
   have HTK2 : Hid ((c.pfx.take (k + 1)).map (·.2.2) = (c.pfx.take k).map (·.2.2) ++ [c.pfx[k].2.2]) := Lib.hid (by rw [List.take_succ_eq_append_getElem hlt, List.map_append]; rfl)
   have hcl : ((c.pfx.take k).map (·.2.2)).length ≤ k := by simp; omega
   clear hA HR HAE
   subst hA2
   generalize c.pfx[k] = x at hc HST HIK HTK1 HTK2
   obtain ⟨x0, x1, x2⟩ := x
   have d0 : wr.cell? ⟨b, o + k * 3, none⟩ = some (.int .u32 x0) := hc 0 _ rfl
   have d1 : wr.cell? ⟨b, o + k * 3 + 1, none⟩ = some (.int .i64 x1) := hc 1 _ rfl
   have d2 : wr.cell? ⟨b, o + k * 3 + 2, none⟩ = some (.int .i64 x2) := hc 2 _ rfl
   clear hc
   obtain ⟨seen, hse⟩ : ∃ s, s = (c.pfx.take k).map fkey := ⟨_, rfl⟩
   obtain ⟨vals, hva⟩ : ∃ s, s = (c.pfx.take k).map (·.2.2) := ⟨_, rfl⟩
   obtain ⟨seen2, hse2⟩ : ∃ s, s = (c.pfx.take (k + 1)).map fkey := ⟨_, rfl⟩
   obtain ⟨vals2, hva2⟩ : ∃ s, s = (c.pfx.take (k + 1)).map (·.2.2) := ⟨_, rfl⟩
   rw [← hse, ← hva, ← hse2, ← hva2] at HST
   rw [← hse, ← hva] at HK
   rw [← hse, ← hse2] at HTK1
   rw [← hva, ← hva2] at HTK2
   rw [← hva] at hcl
   obtain ⟨RST, hRST⟩ : ∃ q, q = pfK n seen2 vals2 (c.pfx.drop (k + 1)) := ⟨_, rfl⟩
   rw [← hRST] at HST
   have HRST := Lib.hid hRST
   have HSE2 := Lib.hid hse2
   have HVA2 := Lib.hid hva2
   clear hse hva hRST hse2 hva2
   simp only [fkey] at HTK1
   obtain ⟨cnt, hcnt⟩ : ∃ m, m = vals.count x2 := ⟨_, rfl⟩
   have hcb : (cnt : Int) + 1 ≤ 9223372036854775807 := by have := List.count_le_length (a := x2) (l := vals); omega
   obtain ⟨q1, z1⟩ : ∃ q, pvalB x0 x1 = q := ⟨_, rfl⟩
   obtain ⟨q2, z2⟩ : ∃ q, decide ((x0, x1) ∈ seen) = q := ⟨_, rfl⟩
   obtain ⟨q3, z3⟩ : ∃ q, wB x2 0 (n - 1) = q := ⟨_, rfl⟩
   obtain ⟨q4, z4⟩ : ∃ q, decide (cnt + 1 ≤ 64) = q := ⟨_, rfl⟩
   have z4b : decide (64 < (cnt : Int) + 1) = !q4 := by rw [← z4]; by_cases h : cnt + 1 ≤ 64 <;> simp [h] <;> omega
   have HD : Hid (V = (q1 && (!q2 && (q3 && (q4 && RST))))) := Lib.hid (HST.out.trans (show (pvalB x0 x1 && (!(decide ((x0, x1) ∈ seen)) && (wB x2 0 (n - 1) && (decide (vals.count x2 + 1 ≤ 64) && RST)))) = _ by rw [z1, z2, z3, ← hcnt, z4]))
   have HPV : Hid (∀ W, Calls Tryz.prog 46 #[.agg #[.int .u32 x0, .int .i64 x1]] W fun e W' => e = .returned (.bool q1) ∧ Below W.heap.size W W') := Lib.hid fun W => by rw [← z1]; exact pfx_Valid x0 x1 W
   have HW3 : Hid (∀ W, Calls Tryz.prog 23 #[.int .i64 x2, .int .i64 0, .int .i64 (n - 1)] W fun e W' => e = .returned (.bool q3) ∧ W = W') := Lib.hid fun W => by rw [← z3]; exact cfg_withinB _ _ _ W
   have HZ2 := Lib.hid z2
   have HCNT := Lib.hid hcnt
   have HK2 := Lib.hid (HK.out.up (below_box wr (.cells #[.int .u32 x0, .int .i64 x1, .int .i64 x2] 72)))
   have hx6 := heap_alloc_new wr (.cells #[.int .u32 x0, .int .i64 x1, .int .i64 x2] 72)
   have HX6 := Lib.hid hx6
   have HMN : Hid (w.heap.size + 1 + 1 < wr.heap.size) := Lib.hid HK.out.q.lt
   clear z1 z2 z3 z4 hcnt HST hx6 HK
   have hnm1 : wr.heap.size ≠ w.heap.size + 1 := by have := HK2.out.m.lt; have := HMN.out; omega
   have hnm2 : wr.heap.size ≠ w.heap.size + 1 + 1 := by have := HMN.out; omega
   cases q1 with
   | false =>
    have HVF : Hid (V = false) := Lib.hid (HD.out.trans (by simp))
    go_wp2_with (first | (go_at_call 46; (with_reducible refine (HPV.out _).mono ?_); rintro e w5 ⟨rfl, hb5⟩; replace HK2 := Lib.hid (HK2.out.up hb5); have hx5 := (hb5.block _ (lt_of_heap HX6.out)).trans HX6.out; have ac0 : w5.cell? ⟨wr.heap.size, 0, none⟩ = some (.int .u32 x0) := Lib.cell_of_heap hx5 0; have ac1 : w5.cell? ⟨wr.heap.size, 1, none⟩ = some (.int .i64 x1) := Lib.cell_of_heap hx5 1; have ac2 : w5.cell? ⟨wr.heap.size, 2, none⟩ = some (.int .i64 x2) := Lib.cell_of_heap hx5 2; have p2 : w5.cell? ⟨w.heap.size, 2, none⟩ = some (.int .i64 n) := HK2.out.k.p 2; have hlk := pfx_look HK2.out.m x0 x1 HIK.out.1 HIK.out.2.1; rw [HZ2.out] at hlk; clear hb5 HPV) | (go_at_call 23; (with_reducible refine (HW3.out _).mono ?_); rintro e w8 ⟨rfl, rfl⟩))
    go_ret
    exact ⟨by rw [HVF.out]; rfl, HK2.out.k.hb⟩
   | true =>
    cases q2 with
    | true =>
     have HVF : Hid (V = false) := Lib.hid (HD.out.trans (by simp))
     go_wp2_with (first | (go_at_call 46; (with_reducible refine (HPV.out _).mono ?_); rintro e w5 ⟨rfl, hb5⟩; replace HK2 := Lib.hid (HK2.out.up hb5); have hx5 := (hb5.block _ (lt_of_heap HX6.out)).trans HX6.out; have ac0 : w5.cell? ⟨wr.heap.size, 0, none⟩ = some (.int .u32 x0) := Lib.cell_of_heap hx5 0; have ac1 : w5.cell? ⟨wr.heap.size, 1, none⟩ = some (.int .i64 x1) := Lib.cell_of_heap hx5 1; have ac2 : w5.cell? ⟨wr.heap.size, 2, none⟩ = some (.int .i64 x2) := Lib.cell_of_heap hx5 2; have p2 : w5.cell? ⟨w.heap.size, 2, none⟩ = some (.int .i64 n) := HK2.out.k.p 2; have hlk := pfx_look HK2.out.m x0 x1 HIK.out.1 HIK.out.2.1; rw [HZ2.out] at hlk; clear hb5 HPV) | (go_at_call 23; (with_reducible refine (HW3.out _).mono ?_); rintro e w8 ⟨rfl, rfl⟩))
     go_ret
     exact ⟨by rw [HVF.out]; rfl, HK2.out.k.hb⟩
    | false =>
     cases q3 with
     | false =>
      have HVF : Hid (V = false) := Lib.hid (HD.out.trans (by simp))
      go_wp2_with (first | (go_at_call 46; (with_reducible refine (HPV.out _).mono ?_); rintro e w5 ⟨rfl, hb5⟩; replace HK2 := Lib.hid (HK2.out.up hb5); have hx5 := (hb5.block _ (lt_of_heap HX6.out)).trans HX6.out; have ac0 : w5.cell? ⟨wr.heap.size, 0, none⟩ = some (.int .u32 x0) := Lib.cell_of_heap hx5 0; have ac1 : w5.cell? ⟨wr.heap.size, 1, none⟩ = some (.int .i64 x1) := Lib.cell_of_heap hx5 1; have ac2 : w5.cell? ⟨wr.heap.size, 2, none⟩ = some (.int .i64 x2) := Lib.cell_of_heap hx5 2; have p2 : w5.cell? ⟨w.heap.size, 2, none⟩ = some (.int .i64 n) := HK2.out.k.p 2; have hlk := pfx_look HK2.out.m x0 x1 HIK.out.1 HIK.out.2.1; rw [HZ2.out] at hlk; clear hb5 HPV) | (go_at_call 23; (with_reducible refine (HW3.out _).mono ?_); rintro e w8 ⟨rfl, rfl⟩))
      go_ret
      exact ⟨by rw [HVF.out]; rfl, HK2.out.k.hb⟩
     | true =>
      cases q4 with
      | false =>
       simp only [Bool.not_false] at z4b
       have HVF : Hid (V = false) := Lib.hid (HD.out.trans (by simp))
       go_wp2_with (first | (go_at_call 46; (with_reducible refine (HPV.out _).mono ?_); rintro e w5 ⟨rfl, hb5⟩; replace HK2 := Lib.hid (HK2.out.up hb5); have hx5 := (hb5.block _ (lt_of_heap HX6.out)).trans HX6.out; have ac0 : w5.cell? ⟨wr.heap.size, 0, none⟩ = some (.int .u32 x0) := Lib.cell_of_heap hx5 0; have ac1 : w5.cell? ⟨wr.heap.size, 1, none⟩ = some (.int .i64 x1) := Lib.cell_of_heap hx5 1; have ac2 : w5.cell? ⟨wr.heap.size, 2, none⟩ = some (.int .i64 x2) := Lib.cell_of_heap hx5 2; have p2 : w5.cell? ⟨w.heap.size, 2, none⟩ = some (.int .i64 n) := HK2.out.k.p 2; have hlk := pfx_look HK2.out.m x0 x1 HIK.out.1 HIK.out.2.1; rw [HZ2.out] at hlk; clear hb5 HPV; obtain ⟨W6, hup6, hk6, hkeep6⟩ := HK2.out.see HCW.out x0 x1 HIK.out.1 HIK.out.2.1 (of_decide_eq_false HZ2.out); have hlt6 : wr.heap.size < w5.heap.size := lt_of_heap hx5; have hx66 := (hkeep6 _ hnm1 hlt6).trans hx5; have bc0 : W6.cell? ⟨wr.heap.size, 0, none⟩ = some (.int .u32 x0) := Lib.cell_of_heap hx66 0; have bc1 : W6.cell? ⟨wr.heap.size, 1, none⟩ = some (.int .i64 x1) := Lib.cell_of_heap hx66 1; have bc2 : W6.cell? ⟨wr.heap.size, 2, none⟩ = some (.int .i64 x2) := Lib.cell_of_heap hx66 2; have hl6 := hk6.q.look x2 HIK.out.2.2; obtain ⟨W7, hup7, hk7, hkeep7⟩ := hk6.count HCW.out x2 HIK.out.2.2; have hx77 := (hkeep7 _ hnm2 (lt_of_heap hx66)).trans hx66; have cc2 : W7.cell? ⟨wr.heap.size, 2, none⟩ = some (.int .i64 x2) := Lib.cell_of_heap hx77 2; have hl7 := hk7.q.look x2 HIK.out.2.2; rw [List.count_append, List.count_singleton_self] at hl7; rw [← HCNT.out] at hl6 hup7 hl7; rw [Int.natCast_add] at hl7; have HK7 := Lib.hid hk7; clear hk6 hk7 hkeep6 hkeep7 hx66 hx77) | (go_at_call 23; (with_reducible refine (HW3.out _).mono ?_); rintro e w8 ⟨rfl, rfl⟩))
       go_ret
       exact ⟨by rw [HVF.out]; rfl, HK7.out.k.hb⟩
      | true =>
       simp only [Bool.not_true] at z4b
       go_wp2_with (first | (go_at_call 46; (with_reducible refine (HPV.out _).mono ?_); rintro e w5 ⟨rfl, hb5⟩; replace HK2 := Lib.hid (HK2.out.up hb5); have hx5 := (hb5.block _ (lt_of_heap HX6.out)).trans HX6.out; have ac0 : w5.cell? ⟨wr.heap.size, 0, none⟩ = some (.int .u32 x0) := Lib.cell_of_heap hx5 0; have ac1 : w5.cell? ⟨wr.heap.size, 1, none⟩ = some (.int .i64 x1) := Lib.cell_of_heap hx5 1; have ac2 : w5.cell? ⟨wr.heap.size, 2, none⟩ = some (.int .i64 x2) := Lib.cell_of_heap hx5 2; have p2 : w5.cell? ⟨w.heap.size, 2, none⟩ = some (.int .i64 n) := HK2.out.k.p 2; have hlk := pfx_look HK2.out.m x0 x1 HIK.out.1 HIK.out.2.1; rw [HZ2.out] at hlk; clear hb5 HPV; obtain ⟨W6, hup6, hk6, hkeep6⟩ := HK2.out.see HCW.out x0 x1 HIK.out.1 HIK.out.2.1 (of_decide_eq_false HZ2.out); have hlt6 : wr.heap.size < w5.heap.size := lt_of_heap hx5; have hx66 := (hkeep6 _ hnm1 hlt6).trans hx5; have bc0 : W6.cell? ⟨wr.heap.size, 0, none⟩ = some (.int .u32 x0) := Lib.cell_of_heap hx66 0; have bc1 : W6.cell? ⟨wr.heap.size, 1, none⟩ = some (.int .i64 x1) := Lib.cell_of_heap hx66 1; have bc2 : W6.cell? ⟨wr.heap.size, 2, none⟩ = some (.int .i64 x2) := Lib.cell_of_heap hx66 2; have hl6 := hk6.q.look x2 HIK.out.2.2; obtain ⟨W7, hup7, hk7, hkeep7⟩ := hk6.count HCW.out x2 HIK.out.2.2; have hx77 := (hkeep7 _ hnm2 (lt_of_heap hx66)).trans hx66; have cc2 : W7.cell? ⟨wr.heap.size, 2, none⟩ = some (.int .i64 x2) := Lib.cell_of_heap hx77 2; have hl7 := hk7.q.look x2 HIK.out.2.2; rw [List.count_append, List.count_singleton_self] at hl7; rw [← HCNT.out] at hl6 hup7 hl7; rw [Int.natCast_add] at hl7; have HK7 := Lib.hid hk7; clear hk6 hk7 hkeep6 hkeep7 hx66 hx77) | (go_at_call 23; (with_reducible refine (HW3.out _).mono ?_); rintro e w8 ⟨rfl, rfl⟩))
       go_roundw
       case rel => exact ⟨k + 1, by omega, by go_num, Lib.hid (HD.out.trans (by rw [HRST.out, HSE2.out, HVA2.out]; simp)), Lib.hid (by rw [← HSE2.out, ← HVA2.out, HTK1.out, HTK2.out]; exact HK7.out)⟩
       case measure => simp [intOf]; omega
  ·obtain rfl : k = c.pfx.length := by omega
   have HVT : Hid (V = true) := Lib.hid (HR.out.trans (by simp [pfK]))
   go_wp2_with fail
   go_ret
   exact ⟨by rw [HVT.out]; rfl, HK.out.k.hb⟩
end Go.Proofs.YtfimacgmciogmaaGreatDoor
namespace Go.Proofs.YtfimacgmciogmaaGreatDoor
set_option linter.unusedSimpArgs false
set_option linter.unusedVariables false
open Go.RowKit Go.Shelf Go.Sort
end Go.Proofs.YtfimacgmciogmaaGreatDoor
