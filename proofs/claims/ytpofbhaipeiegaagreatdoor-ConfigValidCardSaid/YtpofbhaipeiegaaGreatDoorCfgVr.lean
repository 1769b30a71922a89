/-
  config.Valid (printed by gen_cfgvw.py).
  waypointref15.Valid (printed by gen_cfgvr.py).
  The bound of the law of valid configurations: waypointlaw15.large (printed by gen_cfgvl.py).
-/
import Derived.Test.YtpofbhaipeiegaaGreatDoorCfgVx
import Derived.Test.YtpofbhaipeiegaaGreatDoorCfgVn
import Derived.Test.YtpofbhaipeiegaaGreatDoorValid
import Derived.Deep.CutRange
import Derived.Test.YtpofbhaipeiegaaGreatDoorReg
namespace Go.Proofs.YtpofbhaipeiegaaGreatDoor
set_option linter.unusedSimpArgs false
set_option linter.unusedVariables false
open Go.RowKit Go.Shelf Go.Sort

def tmB (c : Cf) : Bool := wB (c.tm.getD 0 0) 1 65536 && (wB (c.tm.getD 1 0) 1 65536 && (wB (c.tm.getD 2 0) 1 65536 && (wB (c.tm.getD 3 0) 1 65536 && wB (c.tm.getD 4 0) 1 65536)))
def topOf (n : Int) (c : Cf) : Topo := ⟨n, c.ov, c.links⟩
/-- What a valid configuration is. -/
def cfgB (n : Int) (c : Cf) : Bool := (valid (topOf n c) && (decide (c.ov.length = 0) || decide (true ∈ c.ov))) && (decide ((c.names.length : Int) = n) && (decide (c.lnames.length = c.links.length) && (namesB (c.names ++ c.lnames) && (tmB c && (prefsB n c.pfx && (polsB n c.links.length c.pols && demsB n c.dems))))))
/-- The sizes within which the walks are made. -/
structure VLim (c : Cf) : Prop where
  p : c.pfx.length ≤ maxLen
  q : c.pols.length ≤ maxLen
  d : c.dems.length ≤ maxLen
  pi : ∀ p ∈ c.pfx, (0 ≤ p.1 ∧ p.1 < 4294967296) ∧ inI p.2.1 ∧ inI p.2.2
  qi : ∀ p ∈ c.pols, inI p.1 ∧ inI p.2.1
theorem valid_ov64 {t : Topo} (h : valid t = true) : t.ov.length ≤ 64 := by
  by_cases h1 : 1 ≤ t.n ∧ t.n ≤ 64
  · by_cases h2 : t.ov.length = 0
    · omega
    · by_cases h3 : (t.ov.length : Int) = t.n
      · omega
      · rw [bad3 h2 h3] at h; cases h
  · rw [bad1 h1] at h; cases h
/-- A boxed configuration and its boxed topology. -/
structure KV (T : TypeId) (w : World) (n : Int) (r : Rws) (c : Cf) (W : World) : Prop where
  k : KC T w n r c W
  t : W.heap[w.heap.size + 1]? = some (.cells #[.int .i64 n, .slice r.aO c.ov.length r.cO, .slice r.aK c.links.length r.cK] 31 (0, 0))
theorem KV.up {T : TypeId} {w : World} {n : Int} {r : Rws} {c : Cf} {W W' : World} (h : KV T w n r c W) (hb : Below W.heap.size W W') : KV T w n r c W' := ⟨h.k.up hb, (hb.block _ (lt_of_heap h.t)).trans h.t⟩
theorem KV.p {T : TypeId} {w : World} {n : Int} {r : Rws} {c : Cf} {W : World} (h : KV T w n r c W) (j : Nat) : W.cell? ⟨w.heap.size, j, none⟩ = (cfCells n r c)[j]? := h.k.p j
theorem KV.q {T : TypeId} {w : World} {n : Int} {r : Rws} {c : Cf} {W : World} (h : KV T w n r c W) (j : Nat) : W.cell? ⟨w.heap.size + 1, j, none⟩ = (#[.int .i64 n, .slice r.aO c.ov.length r.cO, .slice r.aK c.links.length r.cK] : Array Value)[j]? := Lib.cell_of_heap h.t j
theorem KC.all {T : TypeId} {w : World} {n : Int} {r : Rws} {c : Cf} {W : World} {t0 t1 t2 t3 t4 : Int} (h : KC T w n r c W) (e0 : t0 = c.tm.getD 0 0) (e1 : t1 = c.tm.getD 1 0) (e2 : t2 = c.tm.getD 2 0) (e3 : t3 = c.tm.getD 3 0) (e4 : t4 = c.tm.getD 4 0) : W.cell? ⟨w.heap.size, 0, none⟩ = some (.slice r.aN c.names.length r.cN) ∧ W.cell? ⟨w.heap.size, 1, none⟩ = some (.slice r.aL c.lnames.length r.cL) ∧ W.cell? ⟨w.heap.size, 2, none⟩ = some (.int .i64 n) ∧ W.cell? ⟨w.heap.size, 3, none⟩ = some (.slice r.aO c.ov.length r.cO) ∧ W.cell? ⟨w.heap.size, 4, none⟩ = some (.slice r.aK c.links.length r.cK) ∧ W.cell? ⟨w.heap.size, 5, none⟩ = some (.slice r.aP c.pfx.length r.cP) ∧ W.cell? ⟨w.heap.size, 6, none⟩ = some (.slice r.aQ c.pols.length r.cQ) ∧ W.cell? ⟨w.heap.size, 7, none⟩ = some (.slice r.aD c.dems.length r.cD) ∧ W.cell? ⟨w.heap.size, 8, none⟩ = some (.int .i64 t0) ∧ W.cell? ⟨w.heap.size, 9, none⟩ = some (.int .i64 t1) ∧ W.cell? ⟨w.heap.size, 10, none⟩ = some (.int .i64 t2) ∧ W.cell? ⟨w.heap.size, 11, none⟩ = some (.int .i64 t3) ∧ W.cell? ⟨w.heap.size, 12, none⟩ = some (.int .i64 t4) := by
  subst e0 e1 e2 e3 e4
  exact ⟨h.p 0, h.p 1, h.p 2, h.p 3, h.p 4, h.p 5, h.p 6, h.p 7, h.p 8, h.p 9, h.p 10, h.p 11, h.p 12⟩
theorem KV.all {T : TypeId} {w : World} {n : Int} {r : Rws} {c : Cf} {W : World} {t0 t1 t2 t3 t4 : Int} (h : KV T w n r c W) (e0 : t0 = c.tm.getD 0 0) (e1 : t1 = c.tm.getD 1 0) (e2 : t2 = c.tm.getD 2 0) (e3 : t3 = c.tm.getD 3 0) (e4 : t4 = c.tm.getD 4 0) : W.cell? ⟨w.heap.size, 0, none⟩ = some (.slice r.aN c.names.length r.cN) ∧ W.cell? ⟨w.heap.size, 1, none⟩ = some (.slice r.aL c.lnames.length r.cL) ∧ W.cell? ⟨w.heap.size, 2, none⟩ = some (.int .i64 n) ∧ W.cell? ⟨w.heap.size, 3, none⟩ = some (.slice r.aO c.ov.length r.cO) ∧ W.cell? ⟨w.heap.size, 4, none⟩ = some (.slice r.aK c.links.length r.cK) ∧ W.cell? ⟨w.heap.size, 5, none⟩ = some (.slice r.aP c.pfx.length r.cP) ∧ W.cell? ⟨w.heap.size, 6, none⟩ = some (.slice r.aQ c.pols.length r.cQ) ∧ W.cell? ⟨w.heap.size, 7, none⟩ = some (.slice r.aD c.dems.length r.cD) ∧ W.cell? ⟨w.heap.size, 8, none⟩ = some (.int .i64 t0) ∧ W.cell? ⟨w.heap.size, 9, none⟩ = some (.int .i64 t1) ∧ W.cell? ⟨w.heap.size, 10, none⟩ = some (.int .i64 t2) ∧ W.cell? ⟨w.heap.size, 11, none⟩ = some (.int .i64 t3) ∧ W.cell? ⟨w.heap.size, 12, none⟩ = some (.int .i64 t4) := by
  subst e0 e1 e2 e3 e4
  exact ⟨h.p 0, h.p 1, h.p 2, h.p 3, h.p 4, h.p 5, h.p 6, h.p 7, h.p 8, h.p 9, h.p 10, h.p 11, h.p 12⟩
theorem KV.start (T : TypeId) (w : World) (n : Int) (r : Rws) (c : Cf) (h : CAt w r c) : KV T w n r c ((w.alloc (.cells (cfCells n r c) T)).alloc (.cells #[.int .i64 n, .slice r.aO c.ov.length r.cO, .slice r.aK c.links.length r.cK] 31)) := ⟨(KC.start T w n r c h).up (below_box _ _), by have := heap_alloc_new (w.alloc (.cells (cfCells n r c) T)) (.cells #[.int .i64 n, .slice r.aO c.ov.length r.cO, .slice r.aK c.links.length r.cK] 31); simpa using this⟩
/-- The same beside the map of the names that were seen, and the row of all names. -/
structure KVM (w : World) (n : Int) (r : Rws) (c : Cf) (mb B : Nat) (v : Value) (l seen : List (List UInt8)) (W : World) : Prop where
  k : KV 37 w n r c W
  m : MapAt Tryz.prog 9 mb (seenL seen) W
  o : W.ownsRow B 9 1 v l.length (l.map strW)
  h1 : w.heap.size + 1 < mb
  h2 : mb < B
theorem KVM.see {w : World} {n : Int} {r : Rws} {c : Cf} {mb B : Nat} {v : Value} {l seen : List (List UInt8)} {W : World} (hc : CAt w r c) (h : KVM w n r c mb B v l seen W) (x : List UInt8) (hx : x.length ≤ 10000) (hm : x ∉ seen) : ∃ W', (Instr.mapUpdate 101 (.map (some mb)) (.string ⟨x.toArray⟩) (.bool true)).run Tryz.prog W = .ok () W' ∧ KVM w n r c mb B v l (seen ++ [x]) W' := by
  obtain ⟨W', h1, h2, h3⟩ := seen_store h.m x hx hm
  have e : ∀ k, k ≠ mb → k < W.heap.size → W'.heap[k]? = W.heap[k]? := fun k hk hl => h3.block k hl (fun e => hk (Option.some.inj e))
  have g1 := h.h1
  have g2 := h.h2
  refine ⟨W', h1, ⟨⟨h.k.k.grown hc h3 (by omega), (e _ (by omega) (lt_of_heap h.k.t)).trans h.k.t⟩, h2, ?_, g1, g2⟩⟩
  refine ⟨h.o.1, ?_⟩
  rcases h.o.2 with hn | ⟨g, cap, cur, hv, hb, hg, rest⟩
  · exact .inl hn
  · exact .inr ⟨g, cap, cur, hv, hb, (e g (by omega) (lt_of_heap hg)).trans hg, rest⟩
theorem idx5 (a b c d e : Int) (w : World) : (Instr.index 35 (.agg #[.int .i64 a, .int .i64 b, .int .i64 c, .int .i64 d, .int .i64 e]) (.int .i64 0)).run Tryz.prog w = .ok (.int .i64 a) w ∧ (Instr.index 35 (.agg #[.int .i64 a, .int .i64 b, .int .i64 c, .int .i64 d, .int .i64 e]) (.int .i64 1)).run Tryz.prog w = .ok (.int .i64 b) w ∧ (Instr.index 35 (.agg #[.int .i64 a, .int .i64 b, .int .i64 c, .int .i64 d, .int .i64 e]) (.int .i64 2)).run Tryz.prog w = .ok (.int .i64 c) w ∧ (Instr.index 35 (.agg #[.int .i64 a, .int .i64 b, .int .i64 c, .int .i64 d, .int .i64 e]) (.int .i64 3)).run Tryz.prog w = .ok (.int .i64 d) w ∧ (Instr.index 35 (.agg #[.int .i64 a, .int .i64 b, .int .i64 c, .int .i64 d, .int .i64 e]) (.int .i64 4)).run Tryz.prog w = .ok (.int .i64 e) w := ⟨by kernel_rfl, by kernel_rfl, by kernel_rfl, by kernel_rfl, by kernel_rfl⟩

set_option maxHeartbeats 16000000 in
set_option maxRecDepth 100000 in
theorem config_Valid (n : Int) (r : Rws) (c : Cf) (hL : VLim c) (w : World) (h : CAt w r c) : Calls Tryz.prog 19 #[.agg (cfCells n r c)] w fun e w' => e = .returned (.bool (cfgB n c)) ∧ Below w.heap.size w w' := by
  obtain ⟨V, hV⟩ : ∃ V, V = cfgB n c := ⟨_, rfl⟩
  rw [← hV]
  obtain ⟨vT, hvT⟩ : ∃ b, b = valid (topOf n c) := ⟨_, rfl⟩
  obtain ⟨bT, hbT⟩ : ∃ b, b = decide (true ∈ c.ov) := ⟨_, rfl⟩
  obtain ⟨ol, hol⟩ : ∃ m, m = c.ov.length := ⟨_, rfl⟩
  have HV : Hid (V = ((vT && (decide (ol = 0) || bT)) && (decide ((c.names.length : Int) = n) && (decide (c.lnames.length = c.links.length) && (namesB (c.names ++ c.lnames) && (tmB c && (prefsB n c.pfx && (polsB n c.links.length c.pols && demsB n c.dems)))))))) := Lib.hid (by rw [hV, hvT, hbT, hol]; rfl)
  have HVT := Lib.hid hvT
  have HL := Lib.hid hL
  have HCW := Lib.hid h
  have HK := Lib.hid (KV.start 37 w n r c h)
  have HTV : Hid (∀ W, KV 37 w n r c W → Calls Tryz.prog 34 #[.agg #[.int .i64 n, .slice r.aO ol r.cO, .slice r.aK c.links.length r.cK]] W fun e W' => e = .returned (.bool vT) ∧ KV 37 w n r c W') := Lib.hid fun W hW => by rw [hvT, hol]; exact (topology_Valid (topOf n c) r.aO r.aK r.cO r.cK W hW.k.c1.k).mono (by rintro e w9 ⟨rfl, hb⟩; exact ⟨rfl, hW.up hb⟩)
  have HSC : Hid (vT = true → ∀ W, KV 37 w n r c W → Calls Tryz.prog 27 #[.slice r.aO ol r.cO, .bool true] W fun e W' => e = .returned (.bool bT) ∧ KV 37 w n r c W') := Lib.hid fun hv W hW => by rw [hbT, hol]; exact (slices_ContainsB r.aO r.cO c.ov W hW.k.c1.o (by have h9 : c.ov.length ≤ 64 := valid_ov64 (t := topOf n c) (hvT.symm.trans hv); omega)).mono (by rintro e w9 ⟨rfl, rfl⟩; exact ⟨rfl, hW⟩)
  have p2 : (w.alloc (.cells (cfCells n r c) 37)).cell? ⟨w.heap.size, 2, none⟩ = some (.int .i64 n) := Lib.cell_of_heap (heap_alloc_new w _) 2
  have p3 : (w.alloc (.cells (cfCells n r c) 37)).cell? ⟨w.heap.size, 3, none⟩ = some (.slice r.aO c.ov.length r.cO) := Lib.cell_of_heap (heap_alloc_new w _) 3
  have p4 : (w.alloc (.cells (cfCells n r c) 37)).cell? ⟨w.heap.size, 4, none⟩ = some (.slice r.aK c.links.length r.cK) := Lib.cell_of_heap (heap_alloc_new w _) 4
  have hmm := @run_makeMap Tryz.prog
  clear hV hvT hbT hL h
  go_enter Tryz.func19, Tryz.ntmps19
  go_upto_region 2 with fail
  obtain ⟨W2, hW2⟩ : ∃ W, W = ((w.alloc (.cells (cfCells n r c) 37)).alloc (.cells #[.int .i64 n, .slice r.aO c.ov.length r.cO, .slice r.aK c.links.length r.cK] 31)) := ⟨_, rfl⟩
  rw [← hW2] at HK ⊢
  clear hW2 p2 p3 p4
  go_cut [25] from 11 to 25 (fun x wx => x = .bool (!(vT && (decide (ol = 0) || bT))) ∧ Hid (KV 37 w n r c wx))
  case first =>
    have q0 : W2.cell? ⟨w.heap.size + 1, 0, none⟩ = some (.int .i64 n) := HK.out.q 0
    have q1 : W2.cell? ⟨w.heap.size + 1, 1, none⟩ = some (.slice r.aO c.ov.length r.cO) := HK.out.q 1
    rw [← hol] at q1
    have q2 : W2.cell? ⟨w.heap.size + 1, 2, none⟩ = some (.slice r.aK c.links.length r.cK) := HK.out.q 2
    have HOL : Hid (c.ov.length = ol) := Lib.hid hol.symm
    clear hol
    cases vT with
    | false =>
      go_wp2_with (first | (go_at_call 34; (with_reducible refine (HTV.out _ HK.out).mono ?_); rintro e w5 ⟨rfl, hk5⟩; replace HK := Lib.hid hk5; have q0 : w5.cell? ⟨w.heap.size + 1, 0, none⟩ = some (.int .i64 n) := hk5.q 0; have q1 : w5.cell? ⟨w.heap.size + 1, 1, none⟩ = some (.slice r.aO c.ov.length r.cO) := hk5.q 1; rw [HOL.out] at q1; have q2 : w5.cell? ⟨w.heap.size + 1, 2, none⟩ = some (.slice r.aK c.links.length r.cK) := hk5.q 2; clear hk5) | (go_at_call 27; (with_reducible refine (HSC2.out _ HK.out).mono ?_); rintro e w6 ⟨rfl, hk6⟩; replace HK := Lib.hid hk6; clear hk6))
      go_meet
      exact ⟨rfl, HK⟩
    | true =>
      have HSC2 := Lib.hid (HSC.out rfl)
      by_cases h0 : ol = 0
      · subst h0
        go_wp2_with (first | (go_at_call 34; (with_reducible refine (HTV.out _ HK.out).mono ?_); rintro e w5 ⟨rfl, hk5⟩; replace HK := Lib.hid hk5; have q0 : w5.cell? ⟨w.heap.size + 1, 0, none⟩ = some (.int .i64 n) := hk5.q 0; have q1 : w5.cell? ⟨w.heap.size + 1, 1, none⟩ = some (.slice r.aO c.ov.length r.cO) := hk5.q 1; rw [HOL.out] at q1; have q2 : w5.cell? ⟨w.heap.size + 1, 2, none⟩ = some (.slice r.aK c.links.length r.cK) := hk5.q 2; clear hk5) | (go_at_call 27; (with_reducible refine (HSC2.out _ HK.out).mono ?_); rintro e w6 ⟨rfl, hk6⟩; replace HK := Lib.hid hk6; clear hk6))
        go_meet
        exact ⟨rfl, HK⟩
      · have h1 : (0 : Int) < (ol : Int) := by omega
        have H2 : Hid (decide (ol = 0) = false) := Lib.hid (decide_eq_false h0)
        clear h0
        cases bT with
        | false =>
          go_wp2_with (first | (go_at_call 34; (with_reducible refine (HTV.out _ HK.out).mono ?_); rintro e w5 ⟨rfl, hk5⟩; replace HK := Lib.hid hk5; have q0 : w5.cell? ⟨w.heap.size + 1, 0, none⟩ = some (.int .i64 n) := hk5.q 0; have q1 : w5.cell? ⟨w.heap.size + 1, 1, none⟩ = some (.slice r.aO c.ov.length r.cO) := hk5.q 1; rw [HOL.out] at q1; have q2 : w5.cell? ⟨w.heap.size + 1, 2, none⟩ = some (.slice r.aK c.links.length r.cK) := hk5.q 2; clear hk5) | (go_at_call 27; (with_reducible refine (HSC2.out _ HK.out).mono ?_); rintro e w6 ⟨rfl, hk6⟩; replace HK := Lib.hid hk6; clear hk6))
          go_meet
          exact ⟨by rw [H2.out]; rfl, HK⟩
        | true =>
          go_wp2_with (first | (go_at_call 34; (with_reducible refine (HTV.out _ HK.out).mono ?_); rintro e w5 ⟨rfl, hk5⟩; replace HK := Lib.hid hk5; have q0 : w5.cell? ⟨w.heap.size + 1, 0, none⟩ = some (.int .i64 n) := hk5.q 0; have q1 : w5.cell? ⟨w.heap.size + 1, 1, none⟩ = some (.slice r.aO c.ov.length r.cO) := hk5.q 1; rw [HOL.out] at q1; have q2 : w5.cell? ⟨w.heap.size + 1, 2, none⟩ = some (.slice r.aK c.links.length r.cK) := hk5.q 2; clear hk5) | (go_at_call 27; (with_reducible refine (HSC2.out _ HK.out).mono ?_); rintro e w6 ⟨rfl, hk6⟩; replace HK := Lib.hid hk6; clear hk6))
          go_meet
          exact ⟨by rw [H2.out]; rfl, HK⟩
  case rest =>
    obtain ⟨rfl, HK⟩ := hcut
    have HQ : Hid ((vT && (decide (ol = 0) || bT)) = true → vT = true) := Lib.hid (by cases vT <;> simp)
    generalize (vT && (decide (ol = 0) || bT)) = qa at *
    clear hol HTV HSC
    cases qa with
    | false =>
      have HVF : Hid (V = false) := Lib.hid (HV.out.trans (by simp))
      simp only [Bool.not_false]
      go_wp2_with fail
      go_ret
      exact ⟨by rw [HVF.out]; rfl, HK.out.k.hb⟩
    | true =>
      have hval := HVT.out.symm.trans (HQ.out rfl)
      have hn : 1 ≤ n ∧ n ≤ 64 ∧ c.links.length ≤ 256 := by
        by_cases h1 : 1 ≤ (topOf n c).n ∧ (topOf n c).n ≤ 64
        · by_cases h2 : (topOf n c).ls.length ≤ 256
          · exact ⟨h1.1, h1.2, h2⟩
          · rw [bad2 h2] at hval; cases hval
        · rw [bad1 h1] at hval; cases hval
      obtain ⟨hn1, hn2, hlk⟩ := hn
      obtain ⟨t0, ht0⟩ : ∃ t, t = c.tm.getD 0 0 := ⟨_, rfl⟩
      have HTM0 := Lib.hid ht0
      clear ht0
      obtain ⟨t1, ht1⟩ : ∃ t, t = c.tm.getD 1 0 := ⟨_, rfl⟩
      have HTM1 := Lib.hid ht1
      clear ht1
      obtain ⟨t2, ht2⟩ : ∃ t, t = c.tm.getD 2 0 := ⟨_, rfl⟩
      have HTM2 := Lib.hid ht2
      clear ht2
      obtain ⟨t3, ht3⟩ : ∃ t, t = c.tm.getD 3 0 := ⟨_, rfl⟩
      have HTM3 := Lib.hid ht3
      clear ht3
      obtain ⟨t4, ht4⟩ : ∃ t, t = c.tm.getD 4 0 := ⟨_, rfl⟩
      have HTM4 := Lib.hid ht4
      clear ht4
      have HVP : Hid (∀ b, prefsB n c.pfx = b → ∀ W, KV 37 w n r c W → Calls Tryz.prog 38 #[.agg #[.slice r.aN c.names.length r.cN, .slice r.aL c.lnames.length r.cL, .int .i64 n, .slice r.aO c.ov.length r.cO, .slice r.aK c.links.length r.cK, .slice r.aP c.pfx.length r.cP, .slice r.aQ c.pols.length r.cQ, .slice r.aD c.dems.length r.cD, .int .i64 t0, .int .i64 t1, .int .i64 t2, .int .i64 t3, .int .i64 t4]] W fun e W' => e = .returned (.bool b) ∧ KV 37 w n r c W') := Lib.hid fun b hb W hW => by rw [← hb, HTM0.out, HTM1.out, HTM2.out, HTM3.out, HTM4.out]; exact (cfg_validPrefixes n r c hn1 hn2 HL.out.p HL.out.pi W hW.k.c1).mono (by rintro e w9 ⟨rfl, hb9⟩; exact ⟨rfl, hW.up hb9⟩)
      have HVQ : Hid (∀ b, polsB n c.links.length c.pols = b → ∀ W, KV 37 w n r c W → Calls Tryz.prog 39 #[.agg #[.slice r.aN c.names.length r.cN, .slice r.aL c.lnames.length r.cL, .int .i64 n, .slice r.aO c.ov.length r.cO, .slice r.aK c.links.length r.cK, .slice r.aP c.pfx.length r.cP, .slice r.aQ c.pols.length r.cQ, .slice r.aD c.dems.length r.cD, .int .i64 t0, .int .i64 t1, .int .i64 t2, .int .i64 t3, .int .i64 t4]] W fun e W' => e = .returned (.bool b) ∧ KV 37 w n r c W') := Lib.hid fun b hb W hW => by rw [← hb, HTM0.out, HTM1.out, HTM2.out, HTM3.out, HTM4.out]; exact (cfg_validPolicies n r c hn1 hn2 hlk HL.out.q HL.out.qi W hW.k.c1).mono (by rintro e w9 ⟨rfl, hb9⟩; exact ⟨rfl, hW.up hb9⟩)
      have HVD : Hid (∀ b, demsB n c.dems = b → ∀ W, KV 37 w n r c W → Calls Tryz.prog 40 #[.agg #[.slice r.aN c.names.length r.cN, .slice r.aL c.lnames.length r.cL, .int .i64 n, .slice r.aO c.ov.length r.cO, .slice r.aK c.links.length r.cK, .slice r.aP c.pfx.length r.cP, .slice r.aQ c.pols.length r.cQ, .slice r.aD c.dems.length r.cD, .int .i64 t0, .int .i64 t1, .int .i64 t2, .int .i64 t3, .int .i64 t4]] W fun e W' => e = .returned (.bool b) ∧ KV 37 w n r c W') := Lib.hid fun b hb W hW => by rw [← hb, HTM0.out, HTM1.out, HTM2.out, HTM3.out, HTM4.out]; exact (cfg_validDemands n r c hn1 hn2 HL.out.d W hW.k.c1).mono (by rintro e w9 ⟨rfl, hb9⟩; exact ⟨rfl, hW.up hb9⟩)
      clear hval HVT HQ hn1
      simp only [Bool.not_true]
      have p0 : wc.cell? ⟨w.heap.size, 0, none⟩ = some (.slice r.aN c.names.length r.cN) := HK.out.p 0
      have p1 : wc.cell? ⟨w.heap.size, 1, none⟩ = some (.slice r.aL c.lnames.length r.cL) := HK.out.p 1
      have q0 : wc.cell? ⟨w.heap.size + 1, 0, none⟩ = some (.int .i64 n) := HK.out.q 0
      have q2 : wc.cell? ⟨w.heap.size + 1, 2, none⟩ = some (.slice r.aK c.links.length r.cK) := HK.out.q 2
      obtain ⟨g3, z3⟩ : ∃ q, ((c.names.length : Int) != n) = q := ⟨_, rfl⟩
      obtain ⟨g4, z4⟩ : ∃ q, ((c.lnames.length : Int) != (c.links.length : Int)) = q := ⟨_, rfl⟩
      have HZ3 := Lib.hid z3
      have HZ4 := Lib.hid z4
      have HNK := Lib.hid (And.intro hn2 hlk)
      have HV2 : Hid (V = (!g3 && (!g4 && (namesB (c.names ++ c.lnames) && (tmB c && (prefsB n c.pfx && (polsB n c.links.length c.pols && demsB n c.dems))))))) := Lib.hid (by
        have e3 : decide ((c.names.length : Int) = n) = !g3 := by rw [← z3, bne, Bool.not_not]; rfl
        have e4 : decide (c.lnames.length = c.links.length) = !g4 := by rw [← z4, bne, Bool.not_not, Bool.eq_iff_iff, decide_eq_true_eq, beq_iff_eq]; omega
        rw [HV.out, e3, e4]; rfl)
      clear HV hn2 hlk
      cases g3 with
      | true =>
        have HVF : Hid (V = false) := Lib.hid (HV2.out.trans (by simp))
        go_wp2_with fail
        go_ret
        exact ⟨by rw [HVF.out]; rfl, HK.out.k.hb⟩
      | false =>
        cases g4 with
        | true =>
          have HVF : Hid (V = false) := Lib.hid (HV2.out.trans (by simp))
          go_wp2_with fail
          go_ret
          exact ⟨by rw [HVF.out]; rfl, HK.out.k.hb⟩
        | false =>
          have HV3 : Hid (V = (namesB (c.names ++ c.lnames) && (tmB c && (prefsB n c.pfx && (polsB n c.links.length c.pols && demsB n c.dems))))) := Lib.hid (HV2.out.trans rfl)
          obtain ⟨l, hl⟩ : ∃ l, l = c.names ++ c.lnames := ⟨_, rfl⟩
          have HNL : Hid (c.names.length ≤ 64 ∧ c.lnames.length ≤ 256) := Lib.hid (by have e1 := HZ3.out; have e2 := HZ4.out; rw [bne_eq_false_iff_eq] at e1 e2; have e3 := HNK.out; omega)
          have hll : l.length ≤ 100000 := by rw [hl, List.length_append]; have := HNL.out; omega
          have HLE := Lib.hid hl
          clear HV2 hl
          have HMB : Hid (w.heap.size + 1 < wc.heap.size) := Lib.hid (lt_of_heap HK.out.t)
          have HM0 : Hid (MapAt Tryz.prog 9 wc.heap.size (seenL []) (wc.alloc (.map #[] 0))) := Lib.hid (MapAt.made Tryz.prog 9 wc)
          have HK1 := Lib.hid (HK.out.up (below_box wc (.map #[] 0)))
          have p0m : (wc.alloc (.map #[] 0)).cell? ⟨w.heap.size, 0, none⟩ = some (.slice r.aN c.names.length r.cN) := HK1.out.p 0
          have p1m : (wc.alloc (.map #[] 0)).cell? ⟨w.heap.size, 1, none⟩ = some (.slice r.aL c.lnames.length r.cL) := HK1.out.p 1
          have HCC : Hid (∀ W B, W.cell? ⟨B, 0, none⟩ = some (.slice r.aN c.names.length r.cN) → W.cell? ⟨B, 1, none⟩ = some (.slice r.aL c.lnames.length r.cL) → KV 37 w n r c W → Calls Tryz.prog 35 #[.slice (some ⟨B, 0, none⟩) 2 2] W fun e W' => ∃ v, e = .returned v ∧ W'.ownsRow W.heap.size 9 1 v l.length (l.map strW) ∧ Below W.heap.size W W') := Lib.hid fun W B e0 e1 hW => by rw [HLE.out]; exact slices_Concat2 B r.aN r.aL r.cN r.cL c.names c.lnames W e0 e1 hW.k.c1.n hW.k.c1.l (by have := HNL.out; omega) (by have := HNL.out; omega)
          clear HK
          go_wp2_with (go_at_call 35; refine (HCC.out _ _ ?e0 ?e1 (HK1.out.up (below_box _ _))).mono ?_; (case e0 => simp); (case e1 => simp); rintro e w5 ⟨v5, rfl, ho5, hb5⟩; have HK5 := Lib.hid ((HK1.out.up (below_box _ _)).up hb5); have HM5 := Lib.hid ((HM0.out.kept ((below_box _ _).block _ HM0.out.lt)).kept (hb5.block _ (Nat.lt_trans HM0.out.lt (by simp)))); obtain ⟨A5, c5, rfl, hn5, hm5, hr5⟩ := rd_of_own ho5; have HO5 := Lib.hid ho5; unfold maxLen at hm5; clear ho5 hb5 hr5)
          obtain ⟨mb, hmb⟩ : ∃ b, b = wc.heap.size := ⟨_, rfl⟩
          obtain ⟨B, hB⟩ : ∃ b, b = ((wc.alloc (.map #[] 0)).alloc (.cells #[.slice r.aN c.names.length r.cN, .slice r.aL c.lnames.length r.cL] 27)).heap.size := ⟨_, rfl⟩
          have hmB : mb < B := by rw [hmb, hB]; simp; omega
          rw [← hB] at HO5
          rw [← hmb] at HM5 HMB ⊢
          have HKM : Hid (KVM w n r c mb B (.slice A5 l.length c5) l [] w5) := Lib.hid ⟨HK5.out, HM5.out, HO5.out, HMB.out, hmB⟩
          clear hmB hB HO5 HM5 HK5 HM0 HK1 p0m p1m HCC hmm
          have HV4 : Hid (V = (nmK (l.take 0) (l.drop 0) && (tmB c && (prefsB n c.pfx && (polsB n c.links.length c.pols && demsB n c.dems))))) := Lib.hid (by rw [HV3.out, ← HLE.out]; rfl)
          clear HV3 HLE p0 p1 q0 q2 hmb
          go_loopw [49] (fun i wr => ∃ k : Nat, k ≤ l.length ∧ i = .int .i64 k ∧ Hid (V = (nmK (l.take k) (l.drop k) && (tmB c && (prefsB n c.pfx && (polsB n c.links.length c.pols && demsB n c.dems))))) ∧ Hid (KVM w n r c mb B (.slice A5 l.length c5) l (l.take k) wr)) (fun i _ => l.length - (intOf i).toNat)
          case atStart => exact ⟨0, Nat.zero_le _, rfl, HV4, HKM⟩
          case round =>
            clear HV4 HKM
            obtain ⟨k, hk, rfl, HD, HKM⟩ := hrel
            by_cases hlt : k < l.length
            · obtain ⟨_, _, hAv, _, _, hrd⟩ := rd_of_own HKM.out.o
              injection hAv with hAv1 _ hAv2
              subst hAv1 hAv2
              obtain ⟨b, o, h1, d0⟩ := hrd.at_ (k := k) (u := strW l[k]) (by simp [List.getElem?_eq_getElem hlt])
              have HST := Lib.hid (HD.out.trans (by rw [nmK_step hlt]))
              have HTK := Lib.hid (List.take_succ_eq_append_getElem hlt)
              clear hrd HD
              subst h1
              generalize l[k] = y at d0 HST HTK
              unfold strW at d0
              obtain ⟨T, hT⟩ : ∃ T, T = l.take k := ⟨_, rfl⟩
              rw [← hT] at HST HKM HTK
              have HT := Lib.hid hT
              obtain ⟨g1, y1⟩ : ∃ q, namedB y = q := ⟨_, rfl⟩
              obtain ⟨g2, y2⟩ : ∃ q, decide (y ∈ T) = q := ⟨_, rfl⟩
              have HNM : Hid (∀ W, Calls Tryz.prog 36 #[.string ⟨y.toArray⟩] W fun e W' => e = .returned (.bool g1) ∧ W = W') := Lib.hid fun W => by rw [← y1]; exact cfg_named_any y W
              have HD : Hid (V = ((g1 && (!g2 && nmK (l.take (k + 1)) (l.drop (k + 1)))) && (tmB c && (prefsB n c.pfx && (polsB n c.links.length c.pols && demsB n c.dems))))) := Lib.hid (by rw [HST.out, y1, y2])
              have HY1 : Hid (g1 = true → y.length ≤ 10000) := Lib.hid (fun h => by rw [h] at y1; by_cases hl : 16 < y.length; (· rw [named_long hl] at y1; cases y1); (· omega))
              have HY2 := Lib.hid y2
              clear y1 y2 HST hT
              cases g1 with
              | false =>
                have HVF : Hid (V = false) := Lib.hid (HD.out.trans (by simp))
                go_wp2_with (go_at_call 36; (with_reducible refine (HNM.out _).mono ?_); rintro e w6 ⟨rfl, rfl⟩)
                go_ret
                exact ⟨by rw [HVF.out]; rfl, HKM.out.k.k.hb⟩
              | true =>
                have hxl := HY1.out rfl
                have hlk := seen_look HKM.out.m y hxl
                rw [HY2.out] at hlk
                cases g2 with
                | true =>
                  have HVF : Hid (V = false) := Lib.hid (HD.out.trans (by simp))
                  go_wp2_with (go_at_call 36; (with_reducible refine (HNM.out _).mono ?_); rintro e w6 ⟨rfl, rfl⟩)
                  go_ret
                  exact ⟨by rw [HVF.out]; rfl, HKM.out.k.k.hb⟩
                | false =>
                  obtain ⟨W3, hup, hk3⟩ := HKM.out.see HCW.out y hxl (of_decide_eq_false HY2.out)
                  replace HKM := Lib.hid hk3
                  clear hk3
                  go_wp2_with (go_at_call 36; (with_reducible refine (HNM.out _).mono ?_); rintro e w6 ⟨rfl, rfl⟩)
                  go_roundw
                  case rel => exact ⟨k + 1, by omega, by go_num, Lib.hid (HD.out.trans (by simp)), Lib.hid (by rw [HTK.out]; exact HKM.out)⟩
                  case measure => simp [intOf]; omega
            · obtain rfl : k = l.length := by omega
              have HK := Lib.hid HKM.out.k
              have HV5 : Hid (V = (tmB c && (prefsB n c.pfx && (polsB n c.links.length c.pols && demsB n c.dems)))) := Lib.hid (HD.out.trans (by simp [nmK]))
              clear HD HKM
              have p8 : wr.cell? ⟨w.heap.size, 8, none⟩ = some (.int .i64 (c.tm.getD 0 0)) := HK.out.p 8
              have p9 : wr.cell? ⟨w.heap.size, 9, none⟩ = some (.int .i64 (c.tm.getD 1 0)) := HK.out.p 9
              have p10 : wr.cell? ⟨w.heap.size, 10, none⟩ = some (.int .i64 (c.tm.getD 2 0)) := HK.out.p 10
              have p11 : wr.cell? ⟨w.heap.size, 11, none⟩ = some (.int .i64 (c.tm.getD 3 0)) := HK.out.p 11
              have p12 : wr.cell? ⟨w.heap.size, 12, none⟩ = some (.int .i64 (c.tm.getD 4 0)) := HK.out.p 12
              obtain ⟨REST, hRE⟩ : ∃ b, b = (prefsB n c.pfx && (polsB n c.links.length c.pols && demsB n c.dems)) := ⟨_, rfl⟩
              rw [← hRE] at HV5
              have HRE := Lib.hid hRE
              unfold tmB at HV5
              rw [← HTM0.out, ← HTM1.out, ← HTM2.out, ← HTM3.out, ← HTM4.out] at HV5
              rw [← HTM0.out] at p8
              rw [← HTM1.out] at p9
              rw [← HTM2.out] at p10
              rw [← HTM3.out] at p11
              rw [← HTM4.out] at p12
              clear hRE
              obtain ⟨m0, zm0⟩ : ∃ q, wB t0 1 65536 = q := ⟨_, rfl⟩
              obtain ⟨m1, zm1⟩ : ∃ q, wB t1 1 65536 = q := ⟨_, rfl⟩
              obtain ⟨m2, zm2⟩ : ∃ q, wB t2 1 65536 = q := ⟨_, rfl⟩
              obtain ⟨m3, zm3⟩ : ∃ q, wB t3 1 65536 = q := ⟨_, rfl⟩
              obtain ⟨m4, zm4⟩ : ∃ q, wB t4 1 65536 = q := ⟨_, rfl⟩
              rw [zm0, zm1, zm2, zm3, zm4] at HV5
              have HW0 : Hid (∀ W, Calls Tryz.prog 37 #[.int .i64 t0, .int .i64 1, .int .i64 65536] W fun e W' => e = .returned (.bool m0) ∧ W = W') := Lib.hid fun W => by rw [← zm0]; exact cfg_withinB _ _ _ W
              have HW1 : Hid (∀ W, Calls Tryz.prog 37 #[.int .i64 t1, .int .i64 1, .int .i64 65536] W fun e W' => e = .returned (.bool m1) ∧ W = W') := Lib.hid fun W => by rw [← zm1]; exact cfg_withinB _ _ _ W
              have HW2 : Hid (∀ W, Calls Tryz.prog 37 #[.int .i64 t2, .int .i64 1, .int .i64 65536] W fun e W' => e = .returned (.bool m2) ∧ W = W') := Lib.hid fun W => by rw [← zm2]; exact cfg_withinB _ _ _ W
              have HW3 : Hid (∀ W, Calls Tryz.prog 37 #[.int .i64 t3, .int .i64 1, .int .i64 65536] W fun e W' => e = .returned (.bool m3) ∧ W = W') := Lib.hid fun W => by rw [← zm3]; exact cfg_withinB _ _ _ W
              have HW4 : Hid (∀ W, Calls Tryz.prog 37 #[.int .i64 t4, .int .i64 1, .int .i64 65536] W fun e W' => e = .returned (.bool m4) ∧ W = W') := Lib.hid fun W => by rw [← zm4]; exact cfg_withinB _ _ _ W
              clear zm0 zm1 zm2 zm3 zm4
              go_wp2_with fail
              clear p8 p9 p10 p11 p12
              go_loopw [66] (fun i wx => ∃ k : Nat, i = .int .i64 k ∧ ((k = 0 ∧ V = (m0 && (m1 && (m2 && (m3 && m4))) && REST)) ∨ (k = 1 ∧ V = ((m1 && (m2 && (m3 && m4))) && REST)) ∨ (k = 2 ∧ V = ((m2 && (m3 && m4)) && REST)) ∨ (k = 3 ∧ V = ((m3 && m4) && REST)) ∨ (k = 4 ∧ V = (m4 && REST)) ∨ (k = 5 ∧ V = REST)) ∧ Hid (KV 37 w n r c wx)) (fun i _ => 5 - (intOf i).toNat)
              case atStart => exact ⟨0, rfl, .inl ⟨rfl, HV5.out⟩, HK⟩
              case round =>
                clear HV5 HK
                obtain ⟨k, rfl, HI, HK⟩ := hrel
                rcases HI with ⟨rfl, hv⟩ | ⟨rfl, hv⟩ | ⟨rfl, hv⟩ | ⟨rfl, hv⟩ | ⟨rfl, hv⟩ | ⟨rfl, hv⟩
                · have HD := Lib.hid hv
                  clear hv
                  have hix := fun W => (idx5 t0 t1 t2 t3 t4 W).1
                  cases m0 with
                  | false =>
                    have HVF : Hid (V = false) := Lib.hid (HD.out.trans (by simp))
                    go_wp2_with (go_at_call 37; (with_reducible refine (HW0.out _).mono ?_); rintro e w8 ⟨rfl, rfl⟩)
                    go_ret
                    exact ⟨by rw [HVF.out]; rfl, HK.out.k.hb⟩
                  | true =>
                    go_wp2_with (go_at_call 37; (with_reducible refine (HW0.out _).mono ?_); rintro e w8 ⟨rfl, rfl⟩)
                    go_roundw
                    case rel => exact ⟨1, by go_num, .inr (.inl ⟨rfl, HD.out.trans (by simp)⟩), HK⟩
                    case measure => simp [intOf]
                · have HD := Lib.hid hv
                  clear hv
                  have hix := fun W => (idx5 t0 t1 t2 t3 t4 W).2.1
                  cases m1 with
                  | false =>
                    have HVF : Hid (V = false) := Lib.hid (HD.out.trans (by simp))
                    go_wp2_with (go_at_call 37; (with_reducible refine (HW1.out _).mono ?_); rintro e w8 ⟨rfl, rfl⟩)
                    go_ret
                    exact ⟨by rw [HVF.out]; rfl, HK.out.k.hb⟩
                  | true =>
                    go_wp2_with (go_at_call 37; (with_reducible refine (HW1.out _).mono ?_); rintro e w8 ⟨rfl, rfl⟩)
                    go_roundw
                    case rel => exact ⟨2, by go_num, .inr (.inr (.inl ⟨rfl, HD.out.trans (by simp)⟩)), HK⟩
                    case measure => simp [intOf]
                · have HD := Lib.hid hv
                  clear hv
                  have hix := fun W => (idx5 t0 t1 t2 t3 t4 W).2.2.1
                  cases m2 with
                  | false =>
                    have HVF : Hid (V = false) := Lib.hid (HD.out.trans (by simp))
                    go_wp2_with (go_at_call 37; (with_reducible refine (HW2.out _).mono ?_); rintro e w8 ⟨rfl, rfl⟩)
                    go_ret
                    exact ⟨by rw [HVF.out]; rfl, HK.out.k.hb⟩
                  | true =>
                    go_wp2_with (go_at_call 37; (with_reducible refine (HW2.out _).mono ?_); rintro e w8 ⟨rfl, rfl⟩)
                    go_roundw
                    case rel => exact ⟨3, by go_num, .inr (.inr (.inr (.inl ⟨rfl, HD.out.trans (by simp)⟩))), HK⟩
                    case measure => simp [intOf]
                · have HD := Lib.hid hv
                  clear hv
                  have hix := fun W => (idx5 t0 t1 t2 t3 t4 W).2.2.2.1
                  cases m3 with
                  | false =>
                    have HVF : Hid (V = false) := Lib.hid (HD.out.trans (by simp))
                    go_wp2_with (go_at_call 37; (with_reducible refine (HW3.out _).mono ?_); rintro e w8 ⟨rfl, rfl⟩)
                    go_ret
                    exact ⟨by rw [HVF.out]; rfl, HK.out.k.hb⟩
                  | true =>
                    go_wp2_with (go_at_call 37; (with_reducible refine (HW3.out _).mono ?_); rintro e w8 ⟨rfl, rfl⟩)
                    go_roundw
                    case rel => exact ⟨4, by go_num, .inr (.inr (.inr (.inr (.inl ⟨rfl, HD.out.trans (by simp)⟩)))), HK⟩
                    case measure => simp [intOf]
                · have HD := Lib.hid hv
                  clear hv
                  have hix := fun W => (idx5 t0 t1 t2 t3 t4 W).2.2.2.2
                  cases m4 with
                  | false =>
                    have HVF : Hid (V = false) := Lib.hid (HD.out.trans (by simp))
                    go_wp2_with (go_at_call 37; (with_reducible refine (HW4.out _).mono ?_); rintro e w8 ⟨rfl, rfl⟩)
                    go_ret
                    exact ⟨by rw [HVF.out]; rfl, HK.out.k.hb⟩
                  | true =>
                    go_wp2_with (go_at_call 37; (with_reducible refine (HW4.out _).mono ?_); rintro e w8 ⟨rfl, rfl⟩)
                    go_roundw
                    case rel => exact ⟨5, by go_num, .inr (.inr (.inr (.inr (.inr ⟨rfl, HD.out.trans (by simp)⟩)))), HK⟩
                    case measure => simp [intOf]
                · have HD := Lib.hid (hv.trans HRE.out)
                  clear hv HRE
                  obtain ⟨b1, zb1⟩ : ∃ b, prefsB n c.pfx = b := ⟨_, rfl⟩
                  have HVP2 := Lib.hid (HVP.out _ zb1)
                  obtain ⟨b2, zb2⟩ : ∃ b, polsB n c.links.length c.pols = b := ⟨_, rfl⟩
                  have HVQ2 := Lib.hid (HVQ.out _ zb2)
                  obtain ⟨b3, zb3⟩ : ∃ b, demsB n c.dems = b := ⟨_, rfl⟩
                  have HVD2 := Lib.hid (HVD.out _ zb3)
                  rw [zb1, zb2, zb3] at HD
                  clear zb1 zb2 zb3 HVP HVQ HVD
                  obtain ⟨p0, p1, p2, p3, p4, p5, p6, p7, p8, p9, p10, p11, p12⟩ := HK.out.all HTM0.out HTM1.out HTM2.out HTM3.out HTM4.out
                  cases b1 with
                  | false =>
                    have HVF : Hid (V = false) := Lib.hid (HD.out.trans (by simp))
                    go_wp2_with (first | (go_at_call 38; (with_reducible refine (HVP2.out _ HK.out).mono ?_); rintro e w11 ⟨rfl, hk7⟩; replace HK := Lib.hid hk7; obtain ⟨p0, p1, p2, p3, p4, p5, p6, p7, p8, p9, p10, p11, p12⟩ := hk7.all HTM0.out HTM1.out HTM2.out HTM3.out HTM4.out; clear hk7) | (go_at_call 39; (with_reducible refine (HVQ2.out _ HK.out).mono ?_); rintro e w12 ⟨rfl, hk7⟩; replace HK := Lib.hid hk7; obtain ⟨p0, p1, p2, p3, p4, p5, p6, p7, p8, p9, p10, p11, p12⟩ := hk7.all HTM0.out HTM1.out HTM2.out HTM3.out HTM4.out; clear hk7) | (go_at_call 40; (with_reducible refine (HVD2.out _ HK.out).mono ?_); rintro e w13 ⟨rfl, hk7⟩; replace HK := Lib.hid hk7; obtain ⟨p0, p1, p2, p3, p4, p5, p6, p7, p8, p9, p10, p11, p12⟩ := hk7.all HTM0.out HTM1.out HTM2.out HTM3.out HTM4.out; clear hk7))
                    go_ret
                    exact ⟨by rw [HVF.out]; rfl, HK.out.k.hb⟩
                  | true =>
                    cases b2 with
                    | false =>
                      have HVF : Hid (V = false) := Lib.hid (HD.out.trans (by simp))
                      go_wp2_with (first | (go_at_call 38; (with_reducible refine (HVP2.out _ HK.out).mono ?_); rintro e w11 ⟨rfl, hk7⟩; replace HK := Lib.hid hk7; obtain ⟨p0, p1, p2, p3, p4, p5, p6, p7, p8, p9, p10, p11, p12⟩ := hk7.all HTM0.out HTM1.out HTM2.out HTM3.out HTM4.out; clear hk7) | (go_at_call 39; (with_reducible refine (HVQ2.out _ HK.out).mono ?_); rintro e w12 ⟨rfl, hk7⟩; replace HK := Lib.hid hk7; obtain ⟨p0, p1, p2, p3, p4, p5, p6, p7, p8, p9, p10, p11, p12⟩ := hk7.all HTM0.out HTM1.out HTM2.out HTM3.out HTM4.out; clear hk7) | (go_at_call 40; (with_reducible refine (HVD2.out _ HK.out).mono ?_); rintro e w13 ⟨rfl, hk7⟩; replace HK := Lib.hid hk7; obtain ⟨p0, p1, p2, p3, p4, p5, p6, p7, p8, p9, p10, p11, p12⟩ := hk7.all HTM0.out HTM1.out HTM2.out HTM3.out HTM4.out; clear hk7))
                      go_ret
                      exact ⟨by rw [HVF.out]; rfl, HK.out.k.hb⟩
                    | true =>
                      have HVF : Hid (V = b3) := Lib.hid (HD.out.trans (by simp))
                      go_wp2_with (first | (go_at_call 38; (with_reducible refine (HVP2.out _ HK.out).mono ?_); rintro e w11 ⟨rfl, hk7⟩; replace HK := Lib.hid hk7; obtain ⟨p0, p1, p2, p3, p4, p5, p6, p7, p8, p9, p10, p11, p12⟩ := hk7.all HTM0.out HTM1.out HTM2.out HTM3.out HTM4.out; clear hk7) | (go_at_call 39; (with_reducible refine (HVQ2.out _ HK.out).mono ?_); rintro e w12 ⟨rfl, hk7⟩; replace HK := Lib.hid hk7; obtain ⟨p0, p1, p2, p3, p4, p5, p6, p7, p8, p9, p10, p11, p12⟩ := hk7.all HTM0.out HTM1.out HTM2.out HTM3.out HTM4.out; clear hk7) | (go_at_call 40; (with_reducible refine (HVD2.out _ HK.out).mono ?_); rintro e w13 ⟨rfl, hk7⟩; replace HK := Lib.hid hk7; obtain ⟨p0, p1, p2, p3, p4, p5, p6, p7, p8, p9, p10, p11, p12⟩ := hk7.all HTM0.out HTM1.out HTM2.out HTM3.out HTM4.out; clear hk7))
                      go_ret
                      exact ⟨by rw [HVF.out]; rfl, HK.out.k.hb⟩

end Go.Proofs.YtpofbhaipeiegaaGreatDoor
namespace Go.Proofs.YtpofbhaipeiegaaGreatDoor
set_option linter.unusedSimpArgs false
set_option linter.unusedVariables false
open Go.RowKit Go.Shelf Go.Sort

theorem KV.s {T : TypeId} {w : World} {n : Int} {r : Rws} {c : Cf} {W : World} (h : KV T w n r c W) : (fun w' => w'.cell? ⟨w.heap.size + 1, 0, none⟩ = some (.int .i64 n) ∧ w'.cell? ⟨w.heap.size + 1, 1, none⟩ = some (.slice r.aO c.ov.length r.cO) ∧ w'.cell? ⟨w.heap.size + 1, 2, none⟩ = some (.slice r.aK c.links.length r.cK) ∧ w'.cell? ⟨w.heap.size, 0, none⟩ = some (.slice r.aN c.names.length r.cN) ∧ w'.cell? ⟨w.heap.size, 1, none⟩ = some (.slice r.aL c.lnames.length r.cL)) W := ⟨h.q 0, h.q 1, h.q 2, h.p 0, h.p 1⟩
theorem own_emptyS (w : World) {B : Nat} (hB : B ≤ w.heap.size) (E : TypeId) : (w.alloc (.cells #[] E)).ownsRow B E 1 (.slice (some ⟨w.heap.size, 0, none⟩) 0 0) 0 [] :=
  ⟨by simp, .inr ⟨w.heap.size, 0, #[], rfl, hB, heap_alloc_new w _, Nat.le_refl _, Nat.zero_le _, rfl, by simp⟩⟩

theorem drop_true {l : List Bool} {k : Nat} {y : Bool} (h : l[k]? = some y) : decide (true ∈ l.drop k) = (y || decide (true ∈ l.drop (k + 1))) := by
  obtain ⟨h1, h2⟩ := List.getElem?_eq_some_iff.1 h
  rw [List.drop_eq_getElem_cons h1, h2]
  cases y <;> simp
set_option maxHeartbeats 16000000 in
set_option maxRecDepth 100000 in
theorem ref15_Valid (n : Int) (r : Rws) (c : Cf) (hL : VLim c) (w : World) (h : CAt w r c) : Calls Tryz.prog 20 #[.agg (cfCells n r c)] w fun e w' => e = .returned (.bool (cfgB n c)) ∧ Below w.heap.size w w' := by
  obtain ⟨i0, hi, hz0, hz1, hz2⟩ := info_parts strInfo'
  obtain ⟨V, hV⟩ : ∃ V, V = cfgB n c := ⟨_, rfl⟩
  rw [← hV]
  obtain ⟨vT, hvT⟩ : ∃ b, b = valid (topOf n c) := ⟨_, rfl⟩
  obtain ⟨g3, z3⟩ : ∃ q, ((c.names.length : Int) != n) = q := ⟨_, rfl⟩
  obtain ⟨g4, z4⟩ : ∃ q, ((c.lnames.length : Int) != (c.links.length : Int)) = q := ⟨_, rfl⟩
  have HV : Hid (V = (vT && (!g3 && (!g4 && (namesB (c.names ++ c.lnames) && ((decide (c.ov.length = 0) || decide (true ∈ c.ov)) && (tmB c && (prefsB n c.pfx && (polsB n c.links.length c.pols && demsB n c.dems))))))))) := Lib.hid (by
    have e3 : decide ((c.names.length : Int) = n) = !g3 := by rw [← z3, bne, Bool.not_not]; rfl
    have e4 : decide (c.lnames.length = c.links.length) = !g4 := by rw [← z4, bne, Bool.not_not, Bool.eq_iff_iff, decide_eq_true_eq, beq_iff_eq]; omega
    rw [hV, cfgB, ← hvT, e3, e4]
    generalize (decide (c.ov.length = 0) || decide (true ∈ c.ov)) = u
    cases u <;> cases vT <;> cases g3 <;> cases g4 <;> simp)
  have HVT := Lib.hid hvT
  have HL := Lib.hid hL
  have HK := Lib.hid (KV.start 56 w n r c h)
  have p2 : (w.alloc (.cells (cfCells n r c) 56)).cell? ⟨w.heap.size, 2, none⟩ = some (.int .i64 n) := Lib.cell_of_heap (heap_alloc_new w _) 2
  have p3 : (w.alloc (.cells (cfCells n r c) 56)).cell? ⟨w.heap.size, 3, none⟩ = some (.slice r.aO c.ov.length r.cO) := Lib.cell_of_heap (heap_alloc_new w _) 3
  have p4 : (w.alloc (.cells (cfCells n r c) 56)).cell? ⟨w.heap.size, 4, none⟩ = some (.slice r.aK c.links.length r.cK) := Lib.cell_of_heap (heap_alloc_new w _) 4
  clear hV hvT hL h
  go_enter Tryz.func20, Tryz.ntmps20
  go_upto_region 2 with fail
  obtain ⟨W2, hW2⟩ : ∃ W, W = ((w.alloc (.cells (cfCells n r c) 56)).alloc (.cells #[.int .i64 n, .slice r.aO c.ov.length r.cO, .slice r.aK c.links.length r.cK] 31)) := ⟨_, rfl⟩
  rw [← hW2] at HK ⊢
  clear hW2 p2 p3 p4
  have HTV : Hid (∀ W, KV 56 w n r c W → Calls Tryz.prog 41 #[.agg #[.int .i64 n, .slice r.aO c.ov.length r.cO, .slice r.aK c.links.length r.cK]] W fun e W' => e = .returned (.bool vT) ∧ KV 56 w n r c W') := Lib.hid fun W hW => by rw [HVT.out]; exact (ref09_Valid (topOf n c) r.aO r.aK r.cO r.cK W hW.k.c1.k).mono (by rintro e w9 ⟨rfl, hb⟩; exact ⟨rfl, hW.up hb⟩)
  have HTG : Hid (∀ d os, Calls Tryz.prog 41 #[.agg #[.int .i64 n, .slice r.aO c.ov.length r.cO, .slice r.aK c.links.length r.cK]] (grow (redrawn W2 d) os) fun e w'' => e = .returned (.bool vT) ∧ ∃ p : Regrown, w'' = grow (redrawn W2 p.d) p.os) := Lib.hid fun d os => by rw [HVT.out]; exact Calls.regrown_of (ref09_Valid (topOf n c) r.aO r.aK r.cO r.cK _ (HK.out.k.c1.below (below_regrown W2 d os)).k)
  have q0 : W2.cell? ⟨w.heap.size + 1, 0, none⟩ = some (.int .i64 n) := HK.out.q 0
  have q1 : W2.cell? ⟨w.heap.size + 1, 1, none⟩ = some (.slice r.aO c.ov.length r.cO) := HK.out.q 1
  have q2 : W2.cell? ⟨w.heap.size + 1, 2, none⟩ = some (.slice r.aK c.links.length r.cK) := HK.out.q 2
  have p0 : W2.cell? ⟨w.heap.size, 0, none⟩ = some (.slice r.aN c.names.length r.cN) := HK.out.p 0
  have p1 : W2.cell? ⟨w.heap.size, 1, none⟩ = some (.slice r.aL c.lnames.length r.cL) := HK.out.p 1
  cases vT with
  | false =>
    have HVF : Hid (V = false) := Lib.hid (HV.out.trans (by simp))
    have kq_q0 := cell_regrown q0
    have kq_q1 := cell_regrown q1
    have kq_q2 := cell_regrown q2
    have kq_p0 := cell_regrown p0
    have kq_p1 := cell_regrown p1
    refine wp_region_quiet_below (by kernel_rfl) (by kernel_rfl) ?_
    repeat (go_big_quiet_step (with_reducible exact HTG.out _ _))
    refine wpQuiet_nil ?_
    intro w5 hb5
    replace hb5 := below_of_regrown hb5
    clear kq_q0 kq_q1 kq_q2 kq_p0 kq_p1
    replace q0 := cell_up hb5 q0
    replace q1 := cell_up hb5 q1
    replace q2 := cell_up hb5 q2
    replace p0 := cell_up hb5 p0
    replace p1 := cell_up hb5 p1
    replace HK := Lib.hid (HK.out.up hb5)
    go_wp2_with fail
    go_ret
    exact ⟨by rw [HVF.out]; rfl, HK.out.k.hb⟩
  | true =>
    cases g3 with
    | true =>
      have HVF : Hid (V = false) := Lib.hid (HV.out.trans (by simp))
      have kq_q0 := cell_regrown q0
      have kq_q1 := cell_regrown q1
      have kq_q2 := cell_regrown q2
      have kq_p0 := cell_regrown p0
      have kq_p1 := cell_regrown p1
      refine wp_region_quiet_below (by kernel_rfl) (by kernel_rfl) ?_
      repeat (go_big_quiet_step (with_reducible exact HTG.out _ _))
      refine wpQuiet_nil ?_
      intro w5 hb5
      replace hb5 := below_of_regrown hb5
      clear kq_q0 kq_q1 kq_q2 kq_p0 kq_p1
      replace q0 := cell_up hb5 q0
      replace q1 := cell_up hb5 q1
      replace q2 := cell_up hb5 q2
      replace p0 := cell_up hb5 p0
      replace p1 := cell_up hb5 p1
      replace HK := Lib.hid (HK.out.up hb5)
      go_wp2_with fail
      go_ret
      exact ⟨by rw [HVF.out]; rfl, HK.out.k.hb⟩
    | false =>
      cases g4 with
      | true =>
        have HVF : Hid (V = false) := Lib.hid (HV.out.trans (by simp))
        have kq_q0 := cell_regrown q0
        have kq_q1 := cell_regrown q1
        have kq_q2 := cell_regrown q2
        have kq_p0 := cell_regrown p0
        have kq_p1 := cell_regrown p1
        refine wp_region_quiet_below (by kernel_rfl) (by kernel_rfl) ?_
        repeat (go_big_quiet_step (with_reducible exact HTG.out _ _))
        refine wpQuiet_nil ?_
        intro w5 hb5
        replace hb5 := below_of_regrown hb5
        clear kq_q0 kq_q1 kq_q2 kq_p0 kq_p1
        replace q0 := cell_up hb5 q0
        replace q1 := cell_up hb5 q1
        replace q2 := cell_up hb5 q2
        replace p0 := cell_up hb5 p0
        replace p1 := cell_up hb5 p1
        replace HK := Lib.hid (HK.out.up hb5)
        go_wp2_with fail
        go_ret
        exact ⟨by rw [HVF.out]; rfl, HK.out.k.hb⟩
      | false =>
        clear HTG
        have hval : valid (topOf n c) = true := HVT.out.symm
        have hn : 1 ≤ n ∧ n ≤ 64 ∧ c.links.length ≤ 256 := by
          by_cases h1 : 1 ≤ (topOf n c).n ∧ (topOf n c).n ≤ 64
          · by_cases h2 : (topOf n c).ls.length ≤ 256
            · exact ⟨h1.1, h1.2, h2⟩
            · rw [bad2 h2] at hval; cases hval
          · rw [bad1 h1] at hval; cases hval
        obtain ⟨hn1, hn2, hlk⟩ := hn
        obtain ⟨t0, ht0⟩ : ∃ t, t = c.tm.getD 0 0 := ⟨_, rfl⟩
        have HTM0 := Lib.hid ht0
        clear ht0
        obtain ⟨t1, ht1⟩ : ∃ t, t = c.tm.getD 1 0 := ⟨_, rfl⟩
        have HTM1 := Lib.hid ht1
        clear ht1
        obtain ⟨t2, ht2⟩ : ∃ t, t = c.tm.getD 2 0 := ⟨_, rfl⟩
        have HTM2 := Lib.hid ht2
        clear ht2
        obtain ⟨t3, ht3⟩ : ∃ t, t = c.tm.getD 3 0 := ⟨_, rfl⟩
        have HTM3 := Lib.hid ht3
        clear ht3
        obtain ⟨t4, ht4⟩ : ∃ t, t = c.tm.getD 4 0 := ⟨_, rfl⟩
        have HTM4 := Lib.hid ht4
        clear ht4
        have HVP : Hid (∀ b, prefsB n c.pfx = b → ∀ W, KV 56 w n r c W → Calls Tryz.prog 44 #[.agg #[.slice r.aN c.names.length r.cN, .slice r.aL c.lnames.length r.cL, .int .i64 n, .slice r.aO c.ov.length r.cO, .slice r.aK c.links.length r.cK, .slice r.aP c.pfx.length r.cP, .slice r.aQ c.pols.length r.cQ, .slice r.aD c.dems.length r.cD, .int .i64 t0, .int .i64 t1, .int .i64 t2, .int .i64 t3, .int .i64 t4]] W fun e W' => e = .returned (.bool b) ∧ KV 56 w n r c W') := Lib.hid fun b hb W hW => by rw [← hb, HTM0.out, HTM1.out, HTM2.out, HTM3.out, HTM4.out]; exact (ref15_prefixes n r c hn1 hn2 HL.out.p HL.out.pi W hW.k.c1).mono (by rintro e w9 ⟨rfl, hb9⟩; exact ⟨rfl, hW.up hb9⟩)
        have HVQ : Hid (∀ b, polsB n c.links.length c.pols = b → ∀ W, KV 56 w n r c W → Calls Tryz.prog 45 #[.agg #[.slice r.aN c.names.length r.cN, .slice r.aL c.lnames.length r.cL, .int .i64 n, .slice r.aO c.ov.length r.cO, .slice r.aK c.links.length r.cK, .slice r.aP c.pfx.length r.cP, .slice r.aQ c.pols.length r.cQ, .slice r.aD c.dems.length r.cD, .int .i64 t0, .int .i64 t1, .int .i64 t2, .int .i64 t3, .int .i64 t4]] W fun e W' => e = .returned (.bool b) ∧ KV 56 w n r c W') := Lib.hid fun b hb W hW => by rw [← hb, HTM0.out, HTM1.out, HTM2.out, HTM3.out, HTM4.out]; exact (ref15_policies n r c hn1 hn2 hlk HL.out.q HL.out.qi W hW.k.c1).mono (by rintro e w9 ⟨rfl, hb9⟩; exact ⟨rfl, hW.up hb9⟩)
        have HVD : Hid (∀ b, demsB n c.dems = b → ∀ W, KV 56 w n r c W → Calls Tryz.prog 46 #[.agg #[.slice r.aN c.names.length r.cN, .slice r.aL c.lnames.length r.cL, .int .i64 n, .slice r.aO c.ov.length r.cO, .slice r.aK c.links.length r.cK, .slice r.aP c.pfx.length r.cP, .slice r.aQ c.pols.length r.cQ, .slice r.aD c.dems.length r.cD, .int .i64 t0, .int .i64 t1, .int .i64 t2, .int .i64 t3, .int .i64 t4]] W fun e W' => e = .returned (.bool b) ∧ KV 56 w n r c W') := Lib.hid fun b hb W hW => by rw [← hb, HTM0.out, HTM1.out, HTM2.out, HTM3.out, HTM4.out]; exact (ref15_demands n r c hn1 hn2 HL.out.d W hW.k.c1).mono (by rintro e w9 ⟨rfl, hb9⟩; exact ⟨rfl, hW.up hb9⟩)
        obtain ⟨l, hl⟩ : ∃ l, l = c.names ++ c.lnames := ⟨_, rfl⟩
        have HNL : Hid (c.names.length ≤ 64 ∧ c.lnames.length ≤ 256) := Lib.hid (by rw [bne_eq_false_iff_eq] at z3 z4; omega)
        have hll : l.length ≤ 100000 := by rw [hl, List.length_append]; have := HNL.out; omega
        have HOV := Lib.hid (valid_ov64 hval)
        obtain ⟨nB, znB⟩ : ∃ q, namesB l = q := ⟨_, rfl⟩
        have HLE := Lib.hid hl
        have HV2 : Hid (V = (nB && ((decide (c.ov.length = 0) || decide (true ∈ c.ov)) && (tmB c && (prefsB n c.pfx && (polsB n c.links.length c.pols && demsB n c.dems)))))) := Lib.hid (HV.out.trans (by rw [← hl, znB]; rfl))
        have HNM : Hid (∀ A cc m W, m = l.length → l.length ≤ cc → cc ≤ maxLen → Rd W A (l.map strW) → Calls Tryz.prog 42 #[.slice A m cc] W fun e W' => e = .returned (.bool nB) ∧ Below W.heap.size W W') := Lib.hid fun A cc m W hm h1 h2 h3 => by rw [hm, ← znB]; exact ref15_names A cc l h1 h2 W h3 hll
        clear HV hl znB hval HVT hn1 hn2 hlk
        refine wp_region_held_drew (S := (fun w' => w'.cell? ⟨w.heap.size + 1, 0, none⟩ = some (.int .i64 n) ∧ w'.cell? ⟨w.heap.size + 1, 1, none⟩ = some (.slice r.aO c.ov.length r.cO) ∧ w'.cell? ⟨w.heap.size + 1, 2, none⟩ = some (.slice r.aK c.links.length r.cK) ∧ w'.cell? ⟨w.heap.size, 0, none⟩ = some (.slice r.aN c.names.length r.cN) ∧ w'.cell? ⟨w.heap.size, 1, none⟩ = some (.slice r.aL c.lnames.length r.cL))) (by kernel_rfl) ?_ (fun hHeld => ?_)
        · exact HK.out.s
        (refine takeL (i := 0) (v := ?_) rfl (by kernel_rfl) (by decide +kernel) (by decide +kernel) (fun _ _ _ h => h) (Or.inl ⟨by rfl, ?_⟩) (by assumption) ?_; rotate_left; (focus (intro w9 hS9; (try dsimp only at hS9); go_simp; (try with_reducible rfl); done)))
        (try simp only [Act.put, List.setIfInBounds_toArray, List.set_cons_zero, List.set_cons_succ])
        refine wpAnyH_ready (rs := [1]) (by decide +kernel) (by simp) ?_
        refine consL rfl (fun K hK => ?_) ?_
        · (first | (go_at_call 41; (with_reducible refine (HTV.out _ (HK.out.up (below_drw2 W2))).mono ?_); rintro e W3 ⟨rfl, hk3⟩) | (go_simp; first | done | (first | (go_at_call 41; (with_reducible refine (HTV.out _ (HK.out.up (below_drw2 W2))).mono ?_); rintro e W3 ⟨rfl, hk3⟩))) | go_simp)
          (first | (with_reducible refine hK.out _ _ ?_ ?_) | (go_wp2_with fail; refine hK.out _ _ ?_ ?_))
          (focus (exact KV.s (by assumption)))
          clear hK K hHeld
          intro hHeld
          (try simp only [Act.put, List.setIfInBounds_toArray, List.set_cons_zero, List.set_cons_succ])
          (refine takeL (i := 2) (v := ?_) rfl (by kernel_rfl) (by decide +kernel) (by decide +kernel) (fun _ _ _ h => h) (Or.inl ⟨by rfl, ?_⟩) (by assumption) ?_; rotate_left; (focus (intro w9 hS9; (try dsimp only at hS9); go_simp; (try with_reducible rfl); done)))
          (try simp only [Act.put, List.setIfInBounds_toArray, List.set_cons_zero, List.set_cons_succ])
          (refine takeL (i := 3) (v := ?_) rfl (by kernel_rfl) (by decide +kernel) (by decide +kernel) (fun _ _ _ h => h) (Or.inl ⟨by rfl, ?_⟩) (by assumption) ?_; rotate_left; (focus (intro w9 hS9; (try dsimp only at hS9); go_simp; (try with_reducible rfl); done)))
          (try simp only [Act.put, List.setIfInBounds_toArray, List.set_cons_zero, List.set_cons_succ])
          (refine takeL (i := 4) (v := ?_) rfl (by kernel_rfl) (by decide +kernel) (by decide +kernel) (fun _ _ _ h => h) (Or.inl ⟨by rfl, ?_⟩) (by assumption) ?_; rotate_left; (focus (intro w9 hS9; (try dsimp only at hS9); go_simp; (try with_reducible rfl); done)))
          (try simp only [Act.put, List.setIfInBounds_toArray, List.set_cons_zero, List.set_cons_succ])
          (refine takeL (i := 5) (v := ?_) rfl (by kernel_rfl) (by decide +kernel) (by decide +kernel) (fun _ _ _ h => h) (Or.inl ⟨by rfl, ?_⟩) (by assumption) ?_; rotate_left; (focus (intro w9 hS9; (try dsimp only at hS9); go_simp; (try with_reducible rfl); done)))
          (try simp only [Act.put, List.setIfInBounds_toArray, List.set_cons_zero, List.set_cons_succ])
          (refine takeL (i := 6) (v := ?_) rfl (by kernel_rfl) (by decide +kernel) (by decide +kernel) (fun _ _ _ h => h) (Or.inl ⟨by rfl, ?_⟩) (by assumption) ?_; rotate_left; (focus (intro w9 hS9; (try dsimp only at hS9); go_simp; (try with_reducible rfl); done)))
          (try simp only [Act.put, List.setIfInBounds_toArray, List.set_cons_zero, List.set_cons_succ])
          (refine takeL (i := 7) (v := ?_) rfl (by kernel_rfl) (by decide +kernel) (by decide +kernel) (fun _ _ _ h => h) (Or.inl ⟨by rfl, ?_⟩) (by assumption) ?_; rotate_left; (focus (intro w9 hS9; (try dsimp only at hS9); go_simp; (try with_reducible rfl); done)))
          (try simp only [Act.put, List.setIfInBounds_toArray, List.set_cons_zero, List.set_cons_succ])
          (refine takeL (i := 8) (v := ?_) rfl (by kernel_rfl) (by decide +kernel) (by decide +kernel) (fun _ _ _ h => h) (Or.inl ⟨by rfl, ?_⟩) (by assumption) ?_; rotate_left; (focus (intro w9 hS9; (try dsimp only at hS9); go_simp; (try with_reducible rfl); done)))
          (try simp only [Act.put, List.setIfInBounds_toArray, List.set_cons_zero, List.set_cons_succ])
          (refine takeL (i := 9) (v := ?_) rfl (by kernel_rfl) (by decide +kernel) (by decide +kernel) (fun _ _ _ h => h) (Or.inl ⟨by rfl, ?_⟩) (by assumption) ?_; rotate_left; (focus (intro w9 hS9; (try dsimp only at hS9); go_simp; (try with_reducible rfl); done)))
          (try simp only [Act.put, List.setIfInBounds_toArray, List.set_cons_zero, List.set_cons_succ])
          (refine takeL (i := 10) (v := ?_) rfl (by kernel_rfl) (by decide +kernel) (by decide +kernel) (fun _ _ _ h => h) (Or.inl ⟨by rfl, ?_⟩) (by assumption) ?_; rotate_left; (focus (intro w9 hS9; (try dsimp only at hS9); go_simp; (try with_reducible rfl); done)))
          (try simp only [Act.put, List.setIfInBounds_toArray, List.set_cons_zero, List.set_cons_succ])
          (refine takeL (i := 11) (v := ?_) rfl (by kernel_rfl) (by decide +kernel) (by decide +kernel) (fun _ _ _ h => h) (Or.inl ⟨by rfl, ?_⟩) (by assumption) ?_; rotate_left; (focus (intro w9 hS9; (try dsimp only at hS9); go_simp; (try with_reducible rfl); done)))
          (try simp only [Act.put, List.setIfInBounds_toArray, List.set_cons_zero, List.set_cons_succ])
          (refine takeL (i := 12) (v := ?_) rfl (by kernel_rfl) (by decide +kernel) (by decide +kernel) (fun _ _ _ h => h) (Or.inl ⟨by rfl, ?_⟩) (by assumption) ?_; rotate_left; (focus (intro w9 hS9; (try dsimp only at hS9); go_simp; (try with_reducible rfl); done)))
          (try simp only [Act.put, List.setIfInBounds_toArray, List.set_cons_zero, List.set_cons_succ])
          (refine takeL (i := 13) (v := ?_) rfl (by kernel_rfl) (by decide +kernel) (by decide +kernel) (fun _ _ _ h => h) (Or.inl ⟨by rfl, ?_⟩) (by assumption) ?_; rotate_left; (focus (intro w9 hS9; (try dsimp only at hS9); go_simp; (try with_reducible rfl); done)))
          (try simp only [Act.put, List.setIfInBounds_toArray, List.set_cons_zero, List.set_cons_succ])
          (refine takeL (i := 14) (v := ?_) rfl (by kernel_rfl) (by decide +kernel) (by decide +kernel) (fun _ _ _ h => h) (Or.inl ⟨by rfl, ?_⟩) (by assumption) ?_; rotate_left; (focus (intro w9 hS9; (try dsimp only at hS9); go_simp; (try with_reducible rfl); done)))
          (try simp only [Act.put, List.setIfInBounds_toArray, List.set_cons_zero, List.set_cons_succ])
          (refine takeL (i := 15) (v := ?_) rfl (by kernel_rfl) (by decide +kernel) (by decide +kernel) (fun _ _ _ h => h) (Or.inl ⟨by rfl, ?_⟩) (by assumption) ?_; rotate_left; (focus (intro w9 hS9; (try dsimp only at hS9); go_simp; (try with_reducible rfl); done)))
          (try simp only [Act.put, List.setIfInBounds_toArray, List.set_cons_zero, List.set_cons_succ])
          (refine takeL (i := 16) (v := ?_) rfl (by kernel_rfl) (by decide +kernel) (by decide +kernel) (fun _ _ _ h => h) (Or.inl ⟨by rfl, ?_⟩) (by assumption) ?_; rotate_left; (focus (intro w9 hS9; (try dsimp only at hS9); go_simp; (try with_reducible rfl); done)))
          (try simp only [Act.put, List.setIfInBounds_toArray, List.set_cons_zero, List.set_cons_succ])
          (refine takeL (i := 17) (v := ?_) rfl (by kernel_rfl) (by decide +kernel) (by decide +kernel) (fun _ _ _ h => h) (Or.inl ⟨by rfl, ?_⟩) (by assumption) ?_; rotate_left; (focus (intro w9 hS9; (try dsimp only at hS9); go_simp; (try with_reducible rfl); done)))
          (try simp only [Act.put, List.setIfInBounds_toArray, List.set_cons_zero, List.set_cons_succ])
          (refine takeL (i := 18) (v := ?_) rfl (by kernel_rfl) (by decide +kernel) (by decide +kernel) (fun _ _ _ h => h) (Or.inl ⟨by rfl, ?_⟩) (by assumption) ?_; rotate_left; (focus (intro w9 hS9; (try dsimp only at hS9); go_simp; (try with_reducible rfl); done)))
          (try simp only [Act.put, List.setIfInBounds_toArray, List.set_cons_zero, List.set_cons_succ])
          (refine takeL (i := 19) (v := ?_) rfl (by kernel_rfl) (by decide +kernel) (by decide +kernel) (fun _ _ _ h => h) (Or.inl ⟨by rfl, ?_⟩) (by assumption) ?_; rotate_left; (focus (intro w9 hS9; (try dsimp only at hS9); go_simp; (try with_reducible rfl); done)))
          (try simp only [Act.put, List.setIfInBounds_toArray, List.set_cons_zero, List.set_cons_succ])
          (refine takeL (i := 20) (v := ?_) rfl (by kernel_rfl) (by decide +kernel) (by decide +kernel) (fun _ _ _ h => h) (Or.inl ⟨by rfl, ?_⟩) (by assumption) ?_; rotate_left; (focus (intro w9 hS9; (try dsimp only at hS9); go_simp; (try with_reducible rfl); done)))
          (try simp only [Act.put, List.setIfInBounds_toArray, List.set_cons_zero, List.set_cons_succ])
          (refine takeL (i := 22) (v := ?_) rfl (by kernel_rfl) (by decide +kernel) (by decide +kernel) (fun _ _ _ h => h) (Or.inl ⟨by rfl, ?_⟩) (by assumption) ?_; rotate_left; (focus (intro w9 hS9; (try dsimp only at hS9); go_simp; (try with_reducible rfl); done)))
          (try simp only [Act.put, List.setIfInBounds_toArray, List.set_cons_zero, List.set_cons_succ])
          (refine takeL (i := 23) (v := ?_) rfl (by kernel_rfl) (by decide +kernel) (by decide +kernel) (fun _ _ _ h => h) (Or.inl ⟨by rfl, ?_⟩) (by assumption) ?_; rotate_left; (focus (intro w9 hS9; (try dsimp only at hS9); go_simp; (try with_reducible rfl); done)))
          (try simp only [Act.put, List.setIfInBounds_toArray, List.set_cons_zero, List.set_cons_succ])
          (refine takeL (i := 25) (v := ?_) rfl (by kernel_rfl) (by decide +kernel) (by decide +kernel) (fun _ _ _ h => h) (Or.inl ⟨by rfl, ?_⟩) (by assumption) ?_; rotate_left; (focus (intro w9 hS9; (try dsimp only at hS9); go_simp; (try with_reducible rfl); done)))
          (try simp only [Act.put, List.setIfInBounds_toArray, List.set_cons_zero, List.set_cons_succ])
          (refine takeL (i := 26) (v := ?_) rfl (by kernel_rfl) (by decide +kernel) (by decide +kernel) (fun _ _ _ h => h) (Or.inl ⟨by rfl, ?_⟩) (by assumption) ?_; rotate_left; (focus (intro w9 hS9; (try dsimp only at hS9); go_simp; (try with_reducible rfl); done)))
          (try simp only [Act.put, List.setIfInBounds_toArray, List.set_cons_zero, List.set_cons_succ])
          refine wpAnyH_ready (rs := [21]) (by decide +kernel) (by simp) ?_
          refine consL rfl (fun K hK => ?_) ?_
          · have hk4 := hk3.up (below_box W3 (.cells #[] 9))
            (first | fail | (go_simp; first | done | (first | fail)) | go_simp)
            (first | (with_reducible refine hK.out _ _ ?_ ?_) | (go_wp2_with fail; refine hK.out _ _ ?_ ?_))
            (focus (exact KV.s (by assumption)))
            clear hK K hHeld
            intro hHeld
            (try simp only [Act.put, List.setIfInBounds_toArray, List.set_cons_zero, List.set_cons_succ])
            refine wpAnyH_ready (rs := [24]) (by decide +kernel) (by simp) ?_
            refine consL rfl (fun K hK => ?_) ?_
            · obtain ⟨v5, W5, hr1, ho5, hg5⟩ := run_app_rows (P := Tryz.prog) (W3.alloc (.cells #[] 9)) W3.heap.size 27 27 9 i0 (.string ⟨#[]⟩) 16 Tryz.underlying27 hi hz0 1 (by decide) hz1 hz2 rfl _ _ _ (own_emptyS W3 (Nat.le_refl _) _) r.aN c.names.length r.cN (c.names.map strW) (by simp) hk4.k.c1.n (strW_one _) (by have := HNL.out; unfold maxLen; omega) (by have := HNL.out; omega) (by simp)
              rw [Nat.zero_add] at ho5
              have HB5 := Lib.hid (below_grownOwn (below_box W3 (.cells #[] 9)) (Nat.le_refl _) (own_emptyS W3 (Nat.le_refl _) _) hg5)
              have hk5 := hk3.up HB5.out
              (first | (refine Lib.wp_append_run _ _ _ _ _ rfl _ _ rfl rfl _ _ hr1 ?_) | (go_simp; first | done | (first | (refine Lib.wp_append_run _ _ _ _ _ rfl _ _ rfl rfl _ _ hr1 ?_))) | go_simp)
              (first | (with_reducible refine hK.out _ _ ?_ ?_) | (go_wp2_with fail; refine hK.out _ _ ?_ ?_))
              (focus (exact KV.s (by assumption)))
              clear hK K hHeld
              intro hHeld
              (try simp only [Act.put, List.setIfInBounds_toArray, List.set_cons_zero, List.set_cons_succ])
              refine wpAnyH_ready (rs := [27]) (by decide +kernel) (by simp) ?_
              refine consL rfl (fun K hK => ?_) ?_
              · obtain ⟨v6, W6, hr2, ho6, hg6⟩ := run_app_rows (P := Tryz.prog) W5 W3.heap.size 27 27 9 i0 (.string ⟨#[]⟩) 16 Tryz.underlying27 hi hz0 1 (by decide) hz1 hz2 rfl v5 _ _ ho5 r.aL c.lnames.length r.cL (c.lnames.map strW) (by simp) hk5.k.c1.l (strW_one _) (by have := HNL.out; unfold maxLen; omega) (by have := HNL.out; omega) HB5.out.size
                have HB6 := Lib.hid (below_grownOwn HB5.out (Nat.le_refl _) ho5 hg6)
                have hk6 := hk3.up HB6.out
                (first | (refine Lib.wp_append_run _ _ _ _ _ rfl _ _ rfl rfl _ _ hr2 ?_) | (go_simp; first | done | (first | (refine Lib.wp_append_run _ _ _ _ _ rfl _ _ rfl rfl _ _ hr2 ?_))) | go_simp)
                (first | (with_reducible refine hK.out _ _ ?_ ?_) | (go_wp2_with fail; refine hK.out _ _ ?_ ?_))
                (focus (exact KV.s (by assumption)))
                clear hK K hHeld
                intro hHeld
                (try simp only [Act.put, List.setIfInBounds_toArray, List.set_cons_zero, List.set_cons_succ])
                obtain ⟨A6, c6, rfl, hn6, hm6, hr6⟩ := rd_of_own ho6
                have HLL : Hid (c.names.length + c.lnames.length = l.length) := Lib.hid (by rw [HLE.out, List.length_append])
                rw [HLL.out] at hn6
                rw [List.nil_append, ← List.map_append, ← HLE.out] at hr6
                clear hr1 hr2 ho6 hg6 ho5 hg5 hk5
                refine wpAnyH_ready (rs := [28]) (by decide +kernel) (by simp) ?_
                refine consL rfl (fun K hK => ?_) ?_
                · (first | (go_at_call 42; (with_reducible refine (HNM.out A6 c6 _ W6 HLL.out hn6 hm6 hr6).mono ?_); rintro e W7 ⟨rfl, hb7⟩; have hk7 := hk6.up hb7) | (go_simp; first | done | (first | (go_at_call 42; (with_reducible refine (HNM.out A6 c6 _ W6 HLL.out hn6 hm6 hr6).mono ?_); rintro e W7 ⟨rfl, hb7⟩; have hk7 := hk6.up hb7))) | go_simp)
                  (first | (with_reducible refine hK.out _ _ ?_ ?_) | (go_wp2_with fail; refine hK.out _ _ ?_ ?_))
                  (focus (exact KV.s (by assumption)))
                  clear hK K hHeld
                  intro hHeld
                  (try simp only [Act.put, List.setIfInBounds_toArray, List.set_cons_zero, List.set_cons_succ])
                  replace HK := Lib.hid hk7
                  clear hk6 hb7
                  (refine takeL (i := 29) (v := ?_) rfl (by kernel_rfl) (by decide +kernel) (by decide +kernel) (fun _ _ _ h => h) (Or.inl ⟨by rfl, ?_⟩) (by assumption) ?_; rotate_left; (focus (intro w9 hS9; (try dsimp only at hS9); go_simp; (try with_reducible rfl); done)))
                  (try simp only [Act.put, List.setIfInBounds_toArray, List.set_cons_zero, List.set_cons_succ])
                  (refine takeL (i := 30) (v := ?_) rfl (by kernel_rfl) (by decide +kernel) (by decide +kernel) (fun _ _ _ h => h) (Or.inl ⟨by rfl, ?_⟩) (by assumption) ?_; rotate_left; (focus (intro w9 hS9; (try dsimp only at hS9); go_simp; (try with_reducible rfl); done)))
                  (try simp only [Act.put, List.setIfInBounds_toArray, List.set_cons_zero, List.set_cons_succ])
                  refine wpAnyH_done (by decide +kernel) ?_ _
                  clear hHeld HNM HTV
                  cases nB with
                  | false =>
                    have HVF : Hid (V = false) := Lib.hid (HV2.out.trans (by simp))
                    go_wp2_with fail
                    go_ret
                    exact ⟨by rw [HVF.out]; rfl, HK.out.k.hb⟩
                  | true =>
                    obtain ⟨TR, hTR⟩ : ∃ b, b = (tmB c && (prefsB n c.pfx && (polsB n c.links.length c.pols && demsB n c.dems))) := ⟨_, rfl⟩
                    have HTR := Lib.hid hTR
                    have HV3 : Hid (V = ((decide (c.ov.length = 0) || decide (true ∈ c.ov.drop 0)) && TR)) := Lib.hid (HV2.out.trans (by rw [hTR]; rfl))
                    clear HV2 hTR q0 q1 q2 p0 p1
                    have q0 : W7.cell? ⟨w.heap.size + 1, 0, none⟩ = some (.int .i64 n) := HK.out.q 0
                    have q1 : W7.cell? ⟨w.heap.size + 1, 1, none⟩ = some (.slice r.aO c.ov.length r.cO) := HK.out.q 1
                    have q2 : W7.cell? ⟨w.heap.size + 1, 2, none⟩ = some (.slice r.aK c.links.length r.cK) := HK.out.q 2
                    obtain ⟨x0, hx0⟩ : ∃ q, decide (c.ov.length = 0) = q := ⟨_, rfl⟩
                    have hx0b : ((c.ov.length : Int) == 0) = x0 := by rw [← hx0, Bool.eq_iff_iff, beq_iff_eq, decide_eq_true_eq]; omega
                    rw [hx0] at HV3
                    have hol : c.ov.length ≤ 64 := HOV.out
                    clear hx0
                    go_wp2_with fail
                    clear q0 q2 hx0b
                    go_loopw [4, 5] (fun bv i wr => ∃ (k : Nat) (x : Bool), k ≤ c.ov.length ∧ i = .int .i64 k ∧ bv = .bool x ∧ Hid (V = ((x || decide (true ∈ c.ov.drop k)) && TR)) ∧ Hid (KV 56 w n r c wr)) (fun _ i _ => c.ov.length - (intOf i).toNat)
                    case atStart => exact ⟨0, x0, Nat.zero_le _, rfl, rfl, HV3, HK⟩
                    case round =>
                      clear HV3 HK q1
                      obtain ⟨k, x, hk, rfl, rfl, HD, HK⟩ := hrel
                      have q1 : wr.cell? ⟨w.heap.size + 1, 1, none⟩ = some (.slice r.aO c.ov.length r.cO) := HK.out.q 1
                      by_cases hlt : k < c.ov.length
                      · obtain ⟨b, o, y, hA, hy, d0⟩ := bools_here HK.out.k.c1.o hlt
                        rw [hA] at q1
                        have HY := Lib.hid (drop_true hy)
                        clear hA hy
                        cases x with
                        | true =>
                          go_wp2_with fail
                          go_roundw
                          case rel => exact ⟨k + 1, true, by omega, by go_num, rfl, Lib.hid (HD.out.trans (by simp)), HK⟩
                          case measure => simp [intOf]; omega
                        | false =>
                          cases y with
                          | true =>
                            go_wp2_with fail
                            go_roundw
                            case rel => exact ⟨k + 1, true, by omega, by go_num, rfl, Lib.hid (HD.out.trans (by rw [HY.out]; simp)), HK⟩
                            case measure => simp [intOf]; omega
                          | false =>
                            go_wp2_with fail
                            go_roundw
                            case rel => exact ⟨k + 1, false, by omega, by go_num, rfl, Lib.hid (HD.out.trans (by rw [HY.out]; simp)), HK⟩
                            case measure => simp [intOf]; omega
                      · obtain rfl : k = c.ov.length := by omega
                        have HV4 : Hid (V = (x && TR)) := Lib.hid (HD.out.trans (by simp))
                        clear HD
                        obtain ⟨REST, hRE⟩ : ∃ b, b = (prefsB n c.pfx && (polsB n c.links.length c.pols && demsB n c.dems)) := ⟨_, rfl⟩
                        have HRE := Lib.hid hRE
                        obtain ⟨m0, zm0⟩ : ∃ q, wB t0 1 65536 = q := ⟨_, rfl⟩
                        obtain ⟨m1, zm1⟩ : ∃ q, wB t1 1 65536 = q := ⟨_, rfl⟩
                        obtain ⟨m2, zm2⟩ : ∃ q, wB t2 1 65536 = q := ⟨_, rfl⟩
                        obtain ⟨m3, zm3⟩ : ∃ q, wB t3 1 65536 = q := ⟨_, rfl⟩
                        obtain ⟨m4, zm4⟩ : ∃ q, wB t4 1 65536 = q := ⟨_, rfl⟩
                        have HV5 : Hid (V = (x && ((m0 && (m1 && (m2 && (m3 && m4)))) && REST))) := Lib.hid (HV4.out.trans (by rw [HTR.out, tmB, ← HTM0.out, ← HTM1.out, ← HTM2.out, ← HTM3.out, ← HTM4.out, zm0, zm1, zm2, zm3, zm4, hRE]))
                        have HW0 : Hid (∀ W, Calls Tryz.prog 43 #[.int .i64 t0, .int .i64 1, .int .i64 65536] W fun e W' => e = .returned (.bool m0) ∧ W = W') := Lib.hid fun W => by rw [← zm0]; exact ref15_within _ _ _ W
                        have HW1 : Hid (∀ W, Calls Tryz.prog 43 #[.int .i64 t1, .int .i64 1, .int .i64 65536] W fun e W' => e = .returned (.bool m1) ∧ W = W') := Lib.hid fun W => by rw [← zm1]; exact ref15_within _ _ _ W
                        have HW2 : Hid (∀ W, Calls Tryz.prog 43 #[.int .i64 t2, .int .i64 1, .int .i64 65536] W fun e W' => e = .returned (.bool m2) ∧ W = W') := Lib.hid fun W => by rw [← zm2]; exact ref15_within _ _ _ W
                        have HW3 : Hid (∀ W, Calls Tryz.prog 43 #[.int .i64 t3, .int .i64 1, .int .i64 65536] W fun e W' => e = .returned (.bool m3) ∧ W = W') := Lib.hid fun W => by rw [← zm3]; exact ref15_within _ _ _ W
                        have HW4 : Hid (∀ W, Calls Tryz.prog 43 #[.int .i64 t4, .int .i64 1, .int .i64 65536] W fun e W' => e = .returned (.bool m4) ∧ W = W') := Lib.hid fun W => by rw [← zm4]; exact ref15_within _ _ _ W
                        clear HV4 hRE HTR zm0 zm1 zm2 zm3 zm4
                        go_wp2_with fail
                        clear q1
                        go_loopw [4, 6] (fun bv i wx => ∃ (k : Nat) (x : Bool), i = .int .i64 k ∧ bv = .bool x ∧ ((k = 0 ∧ V = (x && ((m0 && (m1 && (m2 && (m3 && m4)))) && REST))) ∨ (k = 1 ∧ V = (x && ((m1 && (m2 && (m3 && m4))) && REST))) ∨ (k = 2 ∧ V = (x && ((m2 && (m3 && m4)) && REST))) ∨ (k = 3 ∧ V = (x && ((m3 && m4) && REST))) ∨ (k = 4 ∧ V = (x && (m4 && REST))) ∨ (k = 5 ∧ V = (x && REST))) ∧ Hid (KV 56 w n r c wx)) (fun _ i _ => 5 - (intOf i).toNat)
                        case atStart => exact ⟨0, x, rfl, rfl, .inl ⟨rfl, HV5.out⟩, HK⟩
                        case round =>
                          clear HV5 HK
                          obtain ⟨k, x, rfl, rfl, HI, HK⟩ := hrel
                          rcases HI with ⟨rfl, hv⟩ | ⟨rfl, hv⟩ | ⟨rfl, hv⟩ | ⟨rfl, hv⟩ | ⟨rfl, hv⟩ | ⟨rfl, hv⟩
                          · have HD := Lib.hid hv
                            clear hv
                            have p8 : wr.cell? ⟨w.heap.size, 8, none⟩ = some (.int .i64 t0) := (HK.out.p 8).trans (congrArg (fun z => some (Value.int .i64 z)) HTM0.out.symm)
                            cases x with
                            | false =>
                              go_wp2_with fail
                              go_roundw
                              case rel => exact ⟨1, false, by go_num, rfl, .inr (.inl ⟨rfl, HD.out.trans (by cases m0 <;> simp)⟩), HK⟩
                              case measure => simp [intOf]
                            | true =>
                              cases m0 with
                              | false =>
                                go_wp2_with (go_at_call 43; (with_reducible refine (HW0.out _).mono ?_); rintro e w8 ⟨rfl, rfl⟩)
                                refine ⟨?_, ?measure⟩
                                repeat apply Exists.intro
                                refine ⟨?rel, rfl⟩
                                case rel => exact ⟨1, false, by go_num, rfl, .inr (.inl ⟨rfl, HD.out.trans (by simp)⟩), HK⟩
                                case measure => simp [intOf]
                              | true =>
                                go_wp2_with (go_at_call 43; (with_reducible refine (HW0.out _).mono ?_); rintro e w8 ⟨rfl, rfl⟩)
                                refine ⟨?_, ?measure⟩
                                repeat apply Exists.intro
                                refine ⟨?rel, rfl⟩
                                case rel => exact ⟨1, true, by go_num, rfl, .inr (.inl ⟨rfl, HD.out.trans (by simp)⟩), HK⟩
                                case measure => simp [intOf]
                          · have HD := Lib.hid hv
                            clear hv
                            have p9 : wr.cell? ⟨w.heap.size, 9, none⟩ = some (.int .i64 t1) := (HK.out.p 9).trans (congrArg (fun z => some (Value.int .i64 z)) HTM1.out.symm)
                            cases x with
                            | false =>
                              go_wp2_with fail
                              go_roundw
                              case rel => exact ⟨2, false, by go_num, rfl, .inr (.inr (.inl ⟨rfl, HD.out.trans (by cases m1 <;> simp)⟩)), HK⟩
                              case measure => simp [intOf]
                            | true =>
                              cases m1 with
                              | false =>
                                go_wp2_with (go_at_call 43; (with_reducible refine (HW1.out _).mono ?_); rintro e w8 ⟨rfl, rfl⟩)
                                refine ⟨?_, ?measure⟩
                                repeat apply Exists.intro
                                refine ⟨?rel, rfl⟩
                                case rel => exact ⟨2, false, by go_num, rfl, .inr (.inr (.inl ⟨rfl, HD.out.trans (by simp)⟩)), HK⟩
                                case measure => simp [intOf]
                              | true =>
                                go_wp2_with (go_at_call 43; (with_reducible refine (HW1.out _).mono ?_); rintro e w8 ⟨rfl, rfl⟩)
                                refine ⟨?_, ?measure⟩
                                repeat apply Exists.intro
                                refine ⟨?rel, rfl⟩
                                case rel => exact ⟨2, true, by go_num, rfl, .inr (.inr (.inl ⟨rfl, HD.out.trans (by simp)⟩)), HK⟩
                                case measure => simp [intOf]
                          · have HD := Lib.hid hv
                            clear hv
                            have p10 : wr.cell? ⟨w.heap.size, 10, none⟩ = some (.int .i64 t2) := (HK.out.p 10).trans (congrArg (fun z => some (Value.int .i64 z)) HTM2.out.symm)
                            cases x with
                            | false =>
                              go_wp2_with fail
                              go_roundw
                              case rel => exact ⟨3, false, by go_num, rfl, .inr (.inr (.inr (.inl ⟨rfl, HD.out.trans (by cases m2 <;> simp)⟩))), HK⟩
                              case measure => simp [intOf]
                            | true =>
                              cases m2 with
                              | false =>
                                go_wp2_with (go_at_call 43; (with_reducible refine (HW2.out _).mono ?_); rintro e w8 ⟨rfl, rfl⟩)
                                refine ⟨?_, ?measure⟩
                                repeat apply Exists.intro
                                refine ⟨?rel, rfl⟩
                                case rel => exact ⟨3, false, by go_num, rfl, .inr (.inr (.inr (.inl ⟨rfl, HD.out.trans (by simp)⟩))), HK⟩
                                case measure => simp [intOf]
                              | true =>
                                go_wp2_with (go_at_call 43; (with_reducible refine (HW2.out _).mono ?_); rintro e w8 ⟨rfl, rfl⟩)
                                refine ⟨?_, ?measure⟩
                                repeat apply Exists.intro
                                refine ⟨?rel, rfl⟩
                                case rel => exact ⟨3, true, by go_num, rfl, .inr (.inr (.inr (.inl ⟨rfl, HD.out.trans (by simp)⟩))), HK⟩
                                case measure => simp [intOf]
                          · have HD := Lib.hid hv
                            clear hv
                            have p11 : wr.cell? ⟨w.heap.size, 11, none⟩ = some (.int .i64 t3) := (HK.out.p 11).trans (congrArg (fun z => some (Value.int .i64 z)) HTM3.out.symm)
                            cases x with
                            | false =>
                              go_wp2_with fail
                              go_roundw
                              case rel => exact ⟨4, false, by go_num, rfl, .inr (.inr (.inr (.inr (.inl ⟨rfl, HD.out.trans (by cases m3 <;> simp)⟩)))), HK⟩
                              case measure => simp [intOf]
                            | true =>
                              cases m3 with
                              | false =>
                                go_wp2_with (go_at_call 43; (with_reducible refine (HW3.out _).mono ?_); rintro e w8 ⟨rfl, rfl⟩)
                                refine ⟨?_, ?measure⟩
                                repeat apply Exists.intro
                                refine ⟨?rel, rfl⟩
                                case rel => exact ⟨4, false, by go_num, rfl, .inr (.inr (.inr (.inr (.inl ⟨rfl, HD.out.trans (by simp)⟩)))), HK⟩
                                case measure => simp [intOf]
                              | true =>
                                go_wp2_with (go_at_call 43; (with_reducible refine (HW3.out _).mono ?_); rintro e w8 ⟨rfl, rfl⟩)
                                refine ⟨?_, ?measure⟩
                                repeat apply Exists.intro
                                refine ⟨?rel, rfl⟩
                                case rel => exact ⟨4, true, by go_num, rfl, .inr (.inr (.inr (.inr (.inl ⟨rfl, HD.out.trans (by simp)⟩)))), HK⟩
                                case measure => simp [intOf]
                          · have HD := Lib.hid hv
                            clear hv
                            have p12 : wr.cell? ⟨w.heap.size, 12, none⟩ = some (.int .i64 t4) := (HK.out.p 12).trans (congrArg (fun z => some (Value.int .i64 z)) HTM4.out.symm)
                            cases x with
                            | false =>
                              go_wp2_with fail
                              go_roundw
                              case rel => exact ⟨5, false, by go_num, rfl, .inr (.inr (.inr (.inr (.inr ⟨rfl, HD.out.trans (by cases m4 <;> simp)⟩)))), HK⟩
                              case measure => simp [intOf]
                            | true =>
                              cases m4 with
                              | false =>
                                go_wp2_with (go_at_call 43; (with_reducible refine (HW4.out _).mono ?_); rintro e w8 ⟨rfl, rfl⟩)
                                refine ⟨?_, ?measure⟩
                                repeat apply Exists.intro
                                refine ⟨?rel, rfl⟩
                                case rel => exact ⟨5, false, by go_num, rfl, .inr (.inr (.inr (.inr (.inr ⟨rfl, HD.out.trans (by simp)⟩)))), HK⟩
                                case measure => simp [intOf]
                              | true =>
                                go_wp2_with (go_at_call 43; (with_reducible refine (HW4.out _).mono ?_); rintro e w8 ⟨rfl, rfl⟩)
                                refine ⟨?_, ?measure⟩
                                repeat apply Exists.intro
                                refine ⟨?rel, rfl⟩
                                case rel => exact ⟨5, true, by go_num, rfl, .inr (.inr (.inr (.inr (.inr ⟨rfl, HD.out.trans (by simp)⟩)))), HK⟩
                                case measure => simp [intOf]
                          · have HD := Lib.hid (hv.trans (by rw [HRE.out]))
                            clear hv HRE
                            obtain ⟨b1, zb1⟩ : ∃ b, prefsB n c.pfx = b := ⟨_, rfl⟩
                            have HVP2 := Lib.hid (HVP.out _ zb1)
                            obtain ⟨b2, zb2⟩ : ∃ b, polsB n c.links.length c.pols = b := ⟨_, rfl⟩
                            have HVQ2 := Lib.hid (HVQ.out _ zb2)
                            obtain ⟨b3, zb3⟩ : ∃ b, demsB n c.dems = b := ⟨_, rfl⟩
                            have HVD2 := Lib.hid (HVD.out _ zb3)
                            rw [zb1, zb2, zb3] at HD
                            clear zb1 zb2 zb3 HVP HVQ HVD
                            obtain ⟨p0, p1, p2, p3, p4, p5, p6, p7, p8, p9, p10, p11, p12⟩ := HK.out.all HTM0.out HTM1.out HTM2.out HTM3.out HTM4.out
                            cases x with
                            | false =>
                              have HVF : Hid (V = false) := Lib.hid (HD.out.trans (by simp))
                              go_wp2_with (first | (go_at_call 44; (with_reducible refine (HVP2.out _ HK.out).mono ?_); rintro e w11 ⟨rfl, hk7⟩; replace HK := Lib.hid hk7; obtain ⟨p0, p1, p2, p3, p4, p5, p6, p7, p8, p9, p10, p11, p12⟩ := hk7.all HTM0.out HTM1.out HTM2.out HTM3.out HTM4.out; clear hk7) | (go_at_call 45; (with_reducible refine (HVQ2.out _ HK.out).mono ?_); rintro e w12 ⟨rfl, hk7⟩; replace HK := Lib.hid hk7; obtain ⟨p0, p1, p2, p3, p4, p5, p6, p7, p8, p9, p10, p11, p12⟩ := hk7.all HTM0.out HTM1.out HTM2.out HTM3.out HTM4.out; clear hk7) | (go_at_call 46; (with_reducible refine (HVD2.out _ HK.out).mono ?_); rintro e w13 ⟨rfl, hk7⟩; replace HK := Lib.hid hk7; obtain ⟨p0, p1, p2, p3, p4, p5, p6, p7, p8, p9, p10, p11, p12⟩ := hk7.all HTM0.out HTM1.out HTM2.out HTM3.out HTM4.out; clear hk7))
                              go_ret
                              exact ⟨by rw [HVF.out]; rfl, HK.out.k.hb⟩
                            | true =>
                              cases b1 with
                              | false =>
                                have HVF : Hid (V = false) := Lib.hid (HD.out.trans (by simp))
                                go_wp2_with (first | (go_at_call 44; (with_reducible refine (HVP2.out _ HK.out).mono ?_); rintro e w11 ⟨rfl, hk7⟩; replace HK := Lib.hid hk7; obtain ⟨p0, p1, p2, p3, p4, p5, p6, p7, p8, p9, p10, p11, p12⟩ := hk7.all HTM0.out HTM1.out HTM2.out HTM3.out HTM4.out; clear hk7) | (go_at_call 45; (with_reducible refine (HVQ2.out _ HK.out).mono ?_); rintro e w12 ⟨rfl, hk7⟩; replace HK := Lib.hid hk7; obtain ⟨p0, p1, p2, p3, p4, p5, p6, p7, p8, p9, p10, p11, p12⟩ := hk7.all HTM0.out HTM1.out HTM2.out HTM3.out HTM4.out; clear hk7) | (go_at_call 46; (with_reducible refine (HVD2.out _ HK.out).mono ?_); rintro e w13 ⟨rfl, hk7⟩; replace HK := Lib.hid hk7; obtain ⟨p0, p1, p2, p3, p4, p5, p6, p7, p8, p9, p10, p11, p12⟩ := hk7.all HTM0.out HTM1.out HTM2.out HTM3.out HTM4.out; clear hk7))
                                go_ret
                                exact ⟨by rw [HVF.out]; rfl, HK.out.k.hb⟩
                              | true =>
                                cases b2 with
                                | false =>
                                  have HVF : Hid (V = false) := Lib.hid (HD.out.trans (by simp))
                                  go_wp2_with (first | (go_at_call 44; (with_reducible refine (HVP2.out _ HK.out).mono ?_); rintro e w11 ⟨rfl, hk7⟩; replace HK := Lib.hid hk7; obtain ⟨p0, p1, p2, p3, p4, p5, p6, p7, p8, p9, p10, p11, p12⟩ := hk7.all HTM0.out HTM1.out HTM2.out HTM3.out HTM4.out; clear hk7) | (go_at_call 45; (with_reducible refine (HVQ2.out _ HK.out).mono ?_); rintro e w12 ⟨rfl, hk7⟩; replace HK := Lib.hid hk7; obtain ⟨p0, p1, p2, p3, p4, p5, p6, p7, p8, p9, p10, p11, p12⟩ := hk7.all HTM0.out HTM1.out HTM2.out HTM3.out HTM4.out; clear hk7) | (go_at_call 46; (with_reducible refine (HVD2.out _ HK.out).mono ?_); rintro e w13 ⟨rfl, hk7⟩; replace HK := Lib.hid hk7; obtain ⟨p0, p1, p2, p3, p4, p5, p6, p7, p8, p9, p10, p11, p12⟩ := hk7.all HTM0.out HTM1.out HTM2.out HTM3.out HTM4.out; clear hk7))
                                  go_ret
                                  exact ⟨by rw [HVF.out]; rfl, HK.out.k.hb⟩
                                | true =>
                                  have HVF : Hid (V = b3) := Lib.hid (HD.out.trans (by simp))
                                  go_wp2_with (first | (go_at_call 44; (with_reducible refine (HVP2.out _ HK.out).mono ?_); rintro e w11 ⟨rfl, hk7⟩; replace HK := Lib.hid hk7; obtain ⟨p0, p1, p2, p3, p4, p5, p6, p7, p8, p9, p10, p11, p12⟩ := hk7.all HTM0.out HTM1.out HTM2.out HTM3.out HTM4.out; clear hk7) | (go_at_call 45; (with_reducible refine (HVQ2.out _ HK.out).mono ?_); rintro e w12 ⟨rfl, hk7⟩; replace HK := Lib.hid hk7; obtain ⟨p0, p1, p2, p3, p4, p5, p6, p7, p8, p9, p10, p11, p12⟩ := hk7.all HTM0.out HTM1.out HTM2.out HTM3.out HTM4.out; clear hk7) | (go_at_call 46; (with_reducible refine (HVD2.out _ HK.out).mono ?_); rintro e w13 ⟨rfl, hk7⟩; replace HK := Lib.hid hk7; obtain ⟨p0, p1, p2, p3, p4, p5, p6, p7, p8, p9, p10, p11, p12⟩ := hk7.all HTM0.out HTM1.out HTM2.out HTM3.out HTM4.out; clear hk7))
                                  go_ret
                                  exact ⟨by rw [HVF.out]; rfl, HK.out.k.hb⟩
                exact AllReadyH.nil
              exact AllReadyH.nil
            exact AllReadyH.nil
          exact AllReadyH.nil
        exact AllReadyH.nil

end Go.Proofs.YtpofbhaipeiegaaGreatDoor
namespace Go.Proofs.YtpofbhaipeiegaaGreatDoor
set_option linter.unusedSimpArgs false
set_option linter.unusedVariables false
open Go.RowKit Go.Shelf Go.Sort

set_option maxHeartbeats 16000000 in
set_option maxRecDepth 100000 in
theorem law15_large (n : Int) (r : Rws) (c : Cf) (hL : VLim c) (hn63 : c.names.length ≤ maxLen ∧ c.lnames.length ≤ maxLen) (w : World) (h : CAt w r c) : Calls Tryz.prog 18 #[.agg (cfCells n r c)] w fun e w' => (∃ b, e = .returned (.bool b)) ∧ Below w.heap.size w w' := by
  have HK := Lib.hid (KC.start 37 w n r c h)
  have HCW := Lib.hid h
  have hq := hL.q
  unfold maxLen at hq hn63
  have p0 : (w.alloc (.cells (cfCells n r c) 37)).cell? ⟨w.heap.size, 0, none⟩ = some (.slice r.aN c.names.length r.cN) := HK.out.p 0
  have p1 : (w.alloc (.cells (cfCells n r c) 37)).cell? ⟨w.heap.size, 1, none⟩ = some (.slice r.aL c.lnames.length r.cL) := HK.out.p 1
  have p3 : (w.alloc (.cells (cfCells n r c) 37)).cell? ⟨w.heap.size, 3, none⟩ = some (.slice r.aO c.ov.length r.cO) := HK.out.p 3
  have p4 : (w.alloc (.cells (cfCells n r c) 37)).cell? ⟨w.heap.size, 4, none⟩ = some (.slice r.aK c.links.length r.cK) := HK.out.p 4
  have p5 : (w.alloc (.cells (cfCells n r c) 37)).cell? ⟨w.heap.size, 5, none⟩ = some (.slice r.aP c.pfx.length r.cP) := HK.out.p 5
  have p6 : (w.alloc (.cells (cfCells n r c) 37)).cell? ⟨w.heap.size, 6, none⟩ = some (.slice r.aQ c.pols.length r.cQ) := HK.out.p 6
  have p7 : (w.alloc (.cells (cfCells n r c) 37)).cell? ⟨w.heap.size, 7, none⟩ = some (.slice r.aD c.dems.length r.cD) := HK.out.p 7
  obtain ⟨AN, hAN⟩ : ∃ A, A = r.aN := ⟨_, rfl⟩
  rw [← hAN] at p0
  have HAN := Lib.hid hAN
  obtain ⟨AL, hAL⟩ : ∃ A, A = r.aL := ⟨_, rfl⟩
  rw [← hAL] at p1
  have HAL := Lib.hid hAL
  obtain ⟨AQ, hAQ⟩ : ∃ A, A = r.aQ := ⟨_, rfl⟩
  rw [← hAQ] at p6
  have HAQ := Lib.hid hAQ
  clear h hL hAN hAL hAQ
  go_enter Tryz.func18, Tryz.ntmps18
  go_wp2_with fail
  clear p0 p1 p3 p4 p5 p6 p7
  go_loopw [3, 42] (fun s i wr => ∃ (k : Nat) (m : Int), k ≤ c.pols.length ∧ i = .int .i64 k ∧ s = .int .i64 m ∧ Hid (KC 37 w n r c wr)) (fun _ i _ => c.pols.length - (intOf i).toNat)
  case atStart => exact ⟨0, _, Nat.zero_le _, rfl, rfl, HK⟩
  case round =>
    clear HK
    obtain ⟨k, m, hk, rfl, rfl, HK⟩ := hrel
    by_cases hlt : k < c.pols.length
    · have hz1 : k < (c.pols.zip r.ls).length := by rw [List.length_zip, HK.out.c1.ll]; omega
      obtain ⟨b, o, hA, hc⟩ := HK.out.c1.q.flat 3 (fun _ => rfl) (by decide) hz1
      have hA2 := HAQ.out.trans hA
      generalize (c.pols.zip r.ls)[k] = z at hc
      obtain ⟨⟨x0, x1, l⟩, ⟨A2, ca⟩⟩ := z
      clear hA HAQ
      subst hA2
      have d0 : wr.cell? ⟨b, o + k * 3, none⟩ = some (.int .i64 x0) := hc 0 _ rfl
      have d1 : wr.cell? ⟨b, o + k * 3 + 1, none⟩ = some (.int .i64 x1) := hc 1 _ rfl
      have d2 : wr.cell? ⟨b, o + k * 3 + 2, none⟩ = some (.slice A2 l.length ca) := hc 2 _ rfl
      clear hc
      go_wp2_with fail
      go_roundw
      case rel => exact ⟨k + 1, _, by omega, by go_num, rfl, Lib.hid (HK.out.up (below_box _ _))⟩
      case measure => simp [intOf]; omega
    · obtain rfl : k = c.pols.length := by omega
      have p0 : wr.cell? ⟨w.heap.size, 0, none⟩ = some (.slice r.aN c.names.length r.cN) := HK.out.p 0
      rw [← HAN.out] at p0
      have HRD := Lib.hid HK.out.c1.n
      have hrd2 := HRD.out
      rw [← HAN.out] at hrd2
      go_wp2_with fail
      clear p0
      go_loopw [3, 55] (fun s i wx => ∃ (k : Nat) (m : Int), k ≤ c.names.length ∧ i = .int .i64 k ∧ s = .int .i64 m ∧ Hid (KC 37 w n r c wx)) (fun _ i _ => c.names.length - (intOf i).toNat)
      case atStart => exact ⟨0, _, Nat.zero_le _, rfl, rfl, HK⟩
      case round =>
        clear HK hrd2 HRD
        obtain ⟨k, m, hk, rfl, rfl, HK⟩ := hrel
        have hrd2 := HK.out.c1.n
        rw [← HAN.out] at hrd2
        by_cases hlt : k < c.names.length
        · obtain ⟨b, o, y, hA, hy, q0⟩ := strs_here hrd2 hlt
          clear hrd2 hy HAN
          subst hA
          have hlt2 : (k : Int) < (c.names.length : Int) := by omega
          have hk63 : (c.names.length : Int) ≤ 9223372036854775807 := by have := hn63.1; omega
          go_wp2_with fail
          go_roundw
          case rel => exact ⟨k + 1, _, by omega, by go_num, rfl, HK⟩
          case measure => simp [intOf]; omega
        · obtain rfl : k = c.names.length := by omega
          clear hrd2
          have p1 : wr.cell? ⟨w.heap.size, 1, none⟩ = some (.slice r.aL c.lnames.length r.cL) := HK.out.p 1
          rw [← HAL.out] at p1
          have HRD := Lib.hid HK.out.c1.l
          have hrd2 := HRD.out
          rw [← HAL.out] at hrd2
          go_wp2_with fail
          clear p1
          go_loopw [3, 67] (fun s i wx => ∃ (k : Nat) (m : Int), k ≤ c.lnames.length ∧ i = .int .i64 k ∧ s = .int .i64 m ∧ Hid (KC 37 w n r c wx)) (fun _ i _ => c.lnames.length - (intOf i).toNat)
          case atStart => exact ⟨0, _, Nat.zero_le _, rfl, rfl, HK⟩
          case round =>
            clear HK hrd2 HRD
            obtain ⟨k, m, hk, rfl, rfl, HK⟩ := hrel
            have hrd2 := HK.out.c1.l
            rw [← HAL.out] at hrd2
            by_cases hlt : k < c.lnames.length
            · obtain ⟨b, o, y, hA, hy, q0⟩ := strs_here hrd2 hlt
              clear hrd2 hy HAN HAL
              subst hA
              have hlt2 : (k : Int) < (c.lnames.length : Int) := by omega
              have hk63 : (c.lnames.length : Int) ≤ 9223372036854775807 := by have := hn63.2; omega
              go_wp2_with fail
              go_roundw
              case rel => exact ⟨k + 1, _, by omega, by go_num, rfl, HK⟩
              case measure => simp [intOf]; omega
            · obtain rfl : k = c.lnames.length := by omega
              clear hrd2
              go_wp2_with fail
              go_ret
              exact ⟨⟨_, rfl⟩, HK.out.hb⟩

end Go.Proofs.YtpofbhaipeiegaaGreatDoor
