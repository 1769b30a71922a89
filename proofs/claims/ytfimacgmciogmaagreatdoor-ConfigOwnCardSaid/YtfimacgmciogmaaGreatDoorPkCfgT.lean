/-
  config's parser: timer (printed by gen_cfgt.py).
  config's parser: link (printed by gen_cfgu.py).
-/
import Derived.Test.YtfimacgmciogmaaGreatDoorCfgR
namespace Go.Proofs.YtfimacgmciogmaaGreatDoor
set_option linter.unusedSimpArgs false
set_option linter.unusedVariables false
open Go.RowKit Go.Shelf Go.Sort
def tNames : List (List UInt8) := [[104, 101, 108, 108, 111], [100, 101, 97, 100], [100, 101, 116, 101, 99, 116], [103, 97, 116, 104, 101, 114], [104, 111, 108, 100]]
def idxS : List (List UInt8) → List UInt8 → Nat → Int
 | [], _, _ => -1
 | y :: r, x, k => if x = y then (k : Int) else idxS r x (k + 1)
theorem idxS_hit {xs : List (List UInt8)} {x : List UInt8} {k : Nat} (h : xs[k]? = some x) : idxS (xs.drop k) x k = k := by
 obtain ⟨h1, h2⟩ := List.getElem?_eq_some_iff.1 h
 rw [List.drop_eq_getElem_cons h1, idxS, if_pos h2.symm]
theorem idxS_miss {xs : List (List UInt8)} {x y : List UInt8} {k : Nat} (h : xs[k]? = some y) (hn : (x == y) = false) : idxS (xs.drop k) x k = idxS (xs.drop (k + 1)) x (k + 1) := by
 obtain ⟨h1, h2⟩ := List.getElem?_eq_some_iff.1 h
 rw [List.drop_eq_getElem_cons h1, idxS, if_neg (by rw [h2]; simpa using hn)]
theorem idx_cases (x : List UInt8) : idxS tNames x 0 = -1 ∨ idxS tNames x 0 = 0 ∨ idxS tNames x 0 = 1 ∨ idxS tNames x 0 = 2 ∨ idxS tNames x 0 = 3 ∨ idxS tNames x 0 = 4 := by
 simp only [tNames, idxS]
 split
 ·simp
 ·split
  ·simp
  ·split
   ·simp
   ·split
    ·simp
    ·split <;> simp
theorem strs_here {w : World} {A : Option Addr} {xs : List (List UInt8)} {k : Nat} (h : Rd w A (xs.map strW)) (hk : k < xs.length) : ∃ b o x, A = some ⟨b, o, none⟩ ∧ xs[k]? = some x ∧ w.cell? ⟨b, o + k, none⟩ = some (.string ⟨x.toArray⟩) := by
 obtain ⟨b, o, h1, h2⟩ := h.at_ (k := k) (u := strW xs[k]) (by simp [List.getElem?_eq_getElem hk])
 exact ⟨b, o, xs[k], h1, List.getElem?_eq_getElem hk, h2⟩
theorem slices_Index (A : Option Addr) (cc : Nat) (xs : List (List UInt8)) (x : List UInt8) (w : World) (hA : Rd w A (xs.map strW)) (hm : xs.length ≤ 100000) : Calls Tryz.prog 70 #[.slice A xs.length cc, .string ⟨x.toArray⟩] w fun e w' => e = .returned (.int .i64 (idxS xs x 0)) ∧ w = w' := by
 obtain ⟨V, hV⟩ : ∃ V, V = idxS xs x 0 := ⟨_, rfl⟩
 rw [← hV]
 have HV := Lib.hid hV
 have HA := Lib.hid hA
 clear hV hA
 go_enter Tryz.func70, Tryz.ntmps70
 go_wp2
 go_loop [8] (fun i => ∃ k : Nat, k ≤ xs.length ∧ i = .int .i64 k ∧ Hid (V = idxS (xs.drop k) x k)) (fun i => xs.length - (intOf i).toNat)
 case atStart => exact ⟨0, Nat.zero_le _, rfl, HV⟩
 case round =>
  clear HV
  obtain ⟨k, hk, rfl, HV⟩ := hrel
  by_cases hlt : k < xs.length
  ·have hlt' : (k : Int) < (xs.length : Int) := by omega
   obtain ⟨b, o, y, rfl, hy, q0⟩ := strs_here HA.out hlt
   have HY := Lib.hid hy
   clear hy
   cases hp : (x == y) with
   | true =>
    have e : x = y := by simpa using hp
    subst e
    have HR : Hid (V = (k : Int)) := Lib.hid (HV.out.trans (idxS_hit HY.out))
    go_wp2
    go_ret
    exact ⟨by rw [HR.out]; rfl, rfl⟩
   | false =>
    have HR := Lib.hid (HV.out.trans (idxS_miss HY.out hp))
    go_wp2
    go_round
    case rel => exact ⟨k + 1, by omega, by go_num, HR⟩
    case measure => simp [intOf]; omega
  ·obtain rfl : k = xs.length := by omega
   have HR : Hid (V = -1) := Lib.hid (by rw [HV.out, List.drop_length]; rfl)
   go_wp2
   go_ret
   exact ⟨by rw [HR.out]; rfl, rfl⟩
theorem cfg_timerNames (w : World) : Calls Tryz.prog 18 #[] w fun e w' => e = .returned (.slice (some ⟨w.heap.size, 0, none⟩) tNames.length 5) ∧ Rd w' (some ⟨w.heap.size, 0, none⟩) (tNames.map strW) ∧ Below w.heap.size w w' ∧ w.heap.size < w'.heap.size := by
 go_enter Tryz.func18, Tryz.ntmps18
 go_wp2
 go_ret
 refine ⟨rfl, .inr ⟨_, _, rfl, ?_⟩, below_box _ _, by simp⟩
 intro i v hv
 rw [Nat.zero_add, Lib.cell_of_heap (heap_alloc_new w _)]
 simpa [tNames, strW] using hv
theorem getD_set {α : Type} (l : List α) (k j : Nat) (v d : α) (hk : k < l.length) : (l.set k v).getD j d = if k = j then v else l.getD j d := by
 simp only [List.getD_eq_getElem?_getD, List.getElem?_set]
 by_cases e : k = j
 ·subst e; simp [hk]
 ·simp [e]
def timerK (dry : Bool) (c : Cf) (k : Nat) (ws : List (List UInt8)) : Except Int Cf :=
 bindS (expectS kEq ws) fun _ r2 => bindS (valueS dry c.sym 1 65536 r2) fun n r3 => effS (finP dry (c.giv.getD k false) false r3) c { c with giv := c.giv.set k true, tm := c.tm.set k n }
def timerB (dry : Bool) (c : Cf) (i : Int) (ws : List (List UInt8)) : Except Int Cf := if i < 0 then .error 3 else timerK dry c i.toNat ws
def timerS (dry : Bool) (c : Cf) (ws : List (List UInt8)) : Except Int Cf := bindS (nextS ws) fun w r1 => timerB dry c (idxS tNames w 0) r1
section
variable {B pb sb xb yb : Nat} {r : Rws} {c : Cf} {A : Option Addr} {cw : Nat} {all : List (List UInt8)} {dry : Bool} {rest rest' : List (List UInt8)} {W W' : World}
theorem kOf_giv (r : Rws) (c : Cf) (sb xb yb k : Nat) (hk : k < 5) (h : c.giv.length = 5) : kOf r { c with giv := c.giv.set k true } sb xb yb = (kOf r c sb xb yb).set (17 + k) (.bool true) := by
 have e := fun j => getD_set c.giv k j true false (by omega)
 have : k = 0 ∨ k = 1 ∨ k = 2 ∨ k = 3 ∨ k = 4 := by omega
 rcases this with rfl | rfl | rfl | rfl | rfl <;> simp only [kOf, e] <;> rfl
theorem kOf_tm (r : Rws) (c : Cf) (sb xb yb k : Nat) (n : Int) (hk : k < 5) (h : c.tm.length = 5) : kOf r { c with tm := c.tm.set k n } sb xb yb = (kOf r c sb xb yb).set (8 + k) (.int .i64 n) := by
 have e := fun j => getD_set c.tm k j n 0 (by omega)
 have : k = 0 ∨ k = 1 ∨ k = 2 ∨ k = 3 ∨ k = 4 := by omega
 rcases this with rfl | rfl | rfl | rfl | rfl <;> simp only [kOf, e] <;> rfl
theorem St.timer {wv : Value} {i k : Nat} {n : Int} (h : St B pb sb xb yb r c wv i dry W) (hk : k < 5) :
  St B pb sb xb yb r { c with giv := c.giv.set k true, tm := c.tm.set k n } wv i dry ((W.setCell ⟨pb, 17 + k, none⟩ (.bool true)).setCell ⟨pb, 8 + k, none⟩ (.int .i64 n)) ∧ LoM B [pb, sb, xb, yb] W ((W.setCell ⟨pb, 17 + k, none⟩ (.bool true)).setCell ⟨pb, 8 + k, none⟩ (.int .i64 n)) := by
 have h1 := h.pushG (r' := r) (c' := { c with giv := c.giv.set k true }) (j := 17 + k) (v := .bool true) (LoP.refl _ _ _) h.rows (by omega) (kOf_giv r c sb xb yb k hk h.lim.giv) rfl rfl rfl ⟨h.lim.names, h.lim.lnames, h.lim.links, h.lim.pfx, h.lim.pols, h.lim.dems, h.lim.ov, h.lim.tm, by simpa using h.lim.giv, h.lim.sy⟩ h.ll
 have h2 := h1.1.pushG (r' := r) (c' := { c with giv := c.giv.set k true, tm := c.tm.set k n }) (j := 8 + k) (v := .int .i64 n) (LoP.refl _ _ _) h1.1.rows (by omega) (kOf_tm r { c with giv := c.giv.set k true } sb xb yb k n hk h.lim.tm) rfl rfl rfl ⟨h.lim.names, h.lim.lnames, h.lim.links, h.lim.pfx, h.lim.pols, h.lim.dems, h.lim.ov, by simpa using h.lim.tm, by simpa using h.lim.giv, h.lim.sy⟩ h.ll
 exact ⟨h2.1, h1.2.1.trans h2.2.1⟩
set_option maxHeartbeats 8000000 in
set_option maxRecDepth 100000 in
theorem cfg_timer (h : LS B pb sb xb yb r c A cw all dry rest W) : Calls Tryz.prog 39 #[.pointer (some ⟨pb, 0, none⟩)] W (RetS B pb sb xb yb r c A cw all dry W (timerS dry c rest)) := by
 obtain ⟨V, hV⟩ : ∃ V, V = timerS dry c rest := ⟨_, rfl⟩
 rw [← hV]
 simp only [timerS] at hV
 have HV := Lib.hid hV
 have H0 := Lib.hid h
 have HP := Lib.hid h.ps
 have HN := Lib.hid (LoN.refl pb W)
 have HSY := Lib.hid h.st.lim.sy
 obtain ⟨gv0, hgv0⟩ : ∃ b, b = c.giv.getD 0 false := ⟨_, rfl⟩
 have HG0 := Lib.hid hgv0
 obtain ⟨gv1, hgv1⟩ : ∃ b, b = c.giv.getD 1 false := ⟨_, rfl⟩
 have HG1 := Lib.hid hgv1
 obtain ⟨gv2, hgv2⟩ : ∃ b, b = c.giv.getD 2 false := ⟨_, rfl⟩
 have HG2 := Lib.hid hgv2
 obtain ⟨gv3, hgv3⟩ : ∃ b, b = c.giv.getD 3 false := ⟨_, rfl⟩
 have HG3 := Lib.hid hgv3
 obtain ⟨gv4, hgv4⟩ : ∃ b, b = c.giv.getD 4 false := ⟨_, rfl⟩
 have HG4 := Lib.hid hgv4
 clear hV h hgv0 hgv1 hgv2 hgv3 hgv4
 go_enter Tryz.func39, Tryz.ntmps39
 go_wp2_with (first | (go_at_call 18; (first | ((with_reducible refine (cfg_timerNames _).mono ?_))); (first | (rintro e w9 ⟨rfl, hn, hb1, hz⟩)); (first | (have HNB := Lib.hid (And.intro (Nat.ne_of_gt HP.out.lt) hz))); (first | (replace HN := Lib.hid (HN.out.trans (LoN.below hb1)))); (first | (replace HP := Lib.hid (HP.out.up hb1))); (first | (have HNA := Lib.hid hn)); (first | (clear hb1 hn hz))) | (go_at_call 63; (first | ((with_reducible refine (cfg_next HP.out).mono ?_))); (first | (rintro e w1 hr)); (first | (generalize hU : nextS _ = U at hr HV)); (first | (rcases U with c1 | ⟨w, r1⟩)); (first | (focus (obtain ⟨rfl, hl1⟩ := hr; obtain rfl := HV.out; exact ⟨rfl, rfl, (HN.out.trans hl1)⟩))); (first | (obtain ⟨rfl, hp1, hl1⟩ := hr)); (first | (simp only [encS])); (first | (simp only [bindS] at HV)); (first | (skip)); (first | (replace HP := Lib.hid hp1)); (first | (replace HN := Lib.hid (HN.out.trans hl1))); (first | (replace HNA := Lib.hid (rd_blocks HNA.out (fun b o s e => by injection e with e; injection e with e1; subst e1; exact hl1.blk _ HNB.out.2 (by simpa using HNB.out.1))))); (first | (clear hp1 hl1 hU))) | (go_at_call 70; (first | ((with_reducible refine (slices_Index _ _ tNames _ _ HNA.out (by decide)).mono ?_))); (first | (rintro e w9 ⟨rfl, rfl⟩)); (first | (have hc := idx_cases w)); (first | (generalize hI : idxS tNames w 0 = ii at hc HV)); (first | (clear hI)); (first | (rcases hc with rfl | rfl | rfl | rfl | rfl | rfl))) | (go_at_call 40; (first | ((with_reducible refine (cfg_grammar_no _ _).mono ?_))); (first | (rintro e w9 ⟨rfl, rfl⟩)); (first | (obtain rfl : V = .error 3 := HV.out)); (first | (exact ⟨rfl, rfl, HN.out⟩))) | (go_at_call 40; (first | ((with_reducible refine (cfg_grammar_ok _ _).mono ?_))); (first | (rintro e w9 ⟨rfl, rfl⟩)); (first | (simp only [timerB, timerK, kEq, bindS, Int.reduceLT, if_false, Int.reduceToNat, ↓reduceIte, ← HG0.out, ← HG1.out, ← HG2.out, ← HG3.out, ← HG4.out] at HV))) | (go_at_call 65; (first | ((with_reducible refine (cfg_expect HP.out _ (by decide)).mono ?_))); (first | (rintro e w1 hr)); (first | (generalize hU : expectS _ _ = U at hr HV)); (first | (rcases U with c1 | ⟨v1, r1⟩)); (first | (focus (obtain ⟨rfl, hl1⟩ := hr; obtain rfl := HV.out; exact ⟨rfl, rfl, (HN.out.trans hl1)⟩))); (first | (obtain ⟨rfl, hp1, hl1⟩ := hr)); (first | (skip)); (first | (simp only [bindS] at HV)); (first | (skip)); (first | (replace HP := Lib.hid hp1)); (first | (replace HN := Lib.hid (HN.out.trans hl1))); (first | (skip)); (first | (clear hp1 hl1 hU))) | (go_at_call 64; (first | ((with_reducible refine (cfg_value HP.out HSY.out 1 65536).mono ?_))); (first | (rintro e w1 hr)); (first | (generalize hU : valueS _ _ 1 65536 _ = U at hr HV)); (first | (rcases U with c1 | ⟨n, r1⟩)); (first | (focus (obtain ⟨rfl, hl1⟩ := hr; obtain rfl := HV.out; exact ⟨rfl, rfl, (HN.out.trans hl1)⟩))); (first | (obtain ⟨rfl, hp1, hl1⟩ := hr)); (first | (simp only [encI])); (first | (simp only [bindS] at HV)); (first | (skip)); (first | (replace HP := Lib.hid hp1)); (first | (replace HN := Lib.hid (HN.out.trans hl1))); (first | (have g0 : w1.cell? ⟨pb, 17, none⟩ = some (.bool gv0) := (hp1.kc 17 (by decide)).trans (by rw [HG0.out]; rfl))); (first | (have g1 : w1.cell? ⟨pb, 18, none⟩ = some (.bool gv1) := (hp1.kc 18 (by decide)).trans (by rw [HG1.out]; rfl))); (first | (have g2 : w1.cell? ⟨pb, 19, none⟩ = some (.bool gv2) := (hp1.kc 19 (by decide)).trans (by rw [HG2.out]; rfl))); (first | (have g3 : w1.cell? ⟨pb, 20, none⟩ = some (.bool gv3) := (hp1.kc 20 (by decide)).trans (by rw [HG3.out]; rfl))); (first | (have g4 : w1.cell? ⟨pb, 21, none⟩ = some (.bool gv4) := (hp1.kc 21 (by decide)).trans (by rw [HG4.out]; rfl))); (first | (clear hp1 hl1 hU))) | (go_at_call 59; (first | ((with_reducible refine (cfg_finish HP.out _ _).mono ?_))); (first | (rintro e w4 hr)); (first | (generalize hU : finP _ _ _ _ = U at hr HV)); (first | (rcases U with c1 | ⟨eff, r1⟩)); (first | (focus (obtain ⟨rfl, hl1⟩ := hr; obtain rfl := HV.out; exact ⟨rfl, rfl, (HN.out.trans hl1)⟩))); (first | (obtain ⟨rfl, hp1, hl1⟩ := hr)); (first | (simp only [encB])); (first | (replace HP := Lib.hid hp1)); (first | (replace HN := Lib.hid (HN.out.trans hl1))); (first | (clear g0 g1 g2 g3 g4)); (first | (clear hp1 hl1)); (first | (cases eff)); (first | (focus (have HDR := Lib.hid (finP_false hU).1; clear hU))); (first | (rotate_left)); (first | ((have H4 := Lib.hid (H0.out.read HP.out HN.out).st; have x0 : w4.cell? ⟨pb, 17, none⟩ = some (.bool (c.giv.getD 0 false)) := H4.out.cell 17 (by decide); have y0 : w4.cell? ⟨pb, 8, none⟩ = some (.int .i64 (c.tm.getD 0 0)) := H4.out.cell 8 (by decide); have x1 : w4.cell? ⟨pb, 18, none⟩ = some (.bool (c.giv.getD 1 false)) := H4.out.cell 18 (by decide); have y1 : w4.cell? ⟨pb, 9, none⟩ = some (.int .i64 (c.tm.getD 1 0)) := H4.out.cell 9 (by decide); have x2 : w4.cell? ⟨pb, 19, none⟩ = some (.bool (c.giv.getD 2 false)) := H4.out.cell 19 (by decide); have y2 : w4.cell? ⟨pb, 10, none⟩ = some (.int .i64 (c.tm.getD 2 0)) := H4.out.cell 10 (by decide); have x3 : w4.cell? ⟨pb, 20, none⟩ = some (.bool (c.giv.getD 3 false)) := H4.out.cell 20 (by decide); have y3 : w4.cell? ⟨pb, 11, none⟩ = some (.int .i64 (c.tm.getD 3 0)) := H4.out.cell 11 (by decide); have x4 : w4.cell? ⟨pb, 21, none⟩ = some (.bool (c.giv.getD 4 false)) := H4.out.cell 21 (by decide); have y4 : w4.cell? ⟨pb, 12, none⟩ = some (.int .i64 (c.tm.getD 4 0)) := H4.out.cell 12 (by decide); have xf : ∀ i, w4.frozen? ⟨pb, i, none⟩ = false := H4.out.frz; have HDR := Lib.hid (finP_true hU).1; clear hU))); (first | (rotate_left))))
 all_goals first
  | (go_end0; obtain rfl := HV.out; exact ⟨rfl, HN.out.toM H0.out.st.sz (by simp), _, _, (H0.out.read HP.out HN.out).st, (fun _ => ⟨rfl, rfl, HN.out⟩), rfl⟩)
  | (go_end0; obtain rfl := HV.out; exact ⟨rfl, (HN.out.toM H0.out.st.sz (by simp)).trans (H4.out.timer (k := 0) (by decide)).2, _, _, (H4.out.timer (k := 0) (by decide)).1, (fun h => by rw [HDR.out] at h; cases h), rfl⟩)
  | (go_end0; obtain rfl := HV.out; exact ⟨rfl, (HN.out.toM H0.out.st.sz (by simp)).trans (H4.out.timer (k := 1) (by decide)).2, _, _, (H4.out.timer (k := 1) (by decide)).1, (fun h => by rw [HDR.out] at h; cases h), rfl⟩)
  | (go_end0; obtain rfl := HV.out; exact ⟨rfl, (HN.out.toM H0.out.st.sz (by simp)).trans (H4.out.timer (k := 2) (by decide)).2, _, _, (H4.out.timer (k := 2) (by decide)).1, (fun h => by rw [HDR.out] at h; cases h), rfl⟩)
  | (go_end0; obtain rfl := HV.out; exact ⟨rfl, (HN.out.toM H0.out.st.sz (by simp)).trans (H4.out.timer (k := 3) (by decide)).2, _, _, (H4.out.timer (k := 3) (by decide)).1, (fun h => by rw [HDR.out] at h; cases h), rfl⟩)
  | (go_end0; obtain rfl := HV.out; exact ⟨rfl, (HN.out.toM H0.out.st.sz (by simp)).trans (H4.out.timer (k := 4) (by decide)).2, _, _, (H4.out.timer (k := 4) (by decide)).1, (fun h => by rw [HDR.out] at h; cases h), rfl⟩)
end
end Go.Proofs.YtfimacgmciogmaaGreatDoor
namespace Go.Proofs.YtfimacgmciogmaaGreatDoor
set_option linter.unusedSimpArgs false
set_option linter.unusedVariables false
open Go.RowKit Go.Shelf Go.Sort
def seenL (l : List (List UInt8)) : List (Value × Value) := l.map fun w => (.string ⟨w.toArray⟩, .bool true)
theorem zero_bool (w : World) : (zeroValue 4).run Tryz.prog w = .ok (.bool false) w := by kernel_rfl
theorem seen_look {mb : Nat} {seen : List (List UInt8)} {W : World} (h : MapAt Tryz.prog 9 mb (seenL seen) W) (w : List UInt8) (hw : w.length ≤ 10000) : (Instr.lookup 85 (.map (some mb)) (.string ⟨w.toArray⟩) false).run Tryz.prog W = .ok (.bool (decide (w ∈ seen))) W := by
 have hk := keyS (P := Tryz.prog) Tryz.underlying9 (l := w) (by omega)
 by_cases hm : w ∈ seen
 ·rw [decide_eq_true hm]
  exact h.hit key_str Tryz.underlying85 hk false (List.mem_map.2 ⟨w, hm, rfl⟩)
 ·rw [decide_eq_false hm]
  refine h.miss key_str Tryz.underlying85 (zero_bool W) hk false (fun y hy e => hm ?_)
  obtain ⟨u, hu, rfl⟩ := List.mem_map.1 hy
  have : u = w := by simpa using e
  rw [← this]; exact hu
theorem seen_store {mb : Nat} {seen : List (List UInt8)} {W : World} (h : MapAt Tryz.prog 9 mb (seenL seen) W) (w : List UInt8) (hw : w.length ≤ 10000) (hm : w ∉ seen) : ∃ W', (Instr.mapUpdate 85 (.map (some mb)) (.string ⟨w.toArray⟩) (.bool true)).run Tryz.prog W = .ok () W' ∧ MapAt Tryz.prog 9 mb (seenL (seen ++ [w])) W' ∧ W.grownBy W' (some mb) := by
 have hk := keyS (P := Tryz.prog) Tryz.underlying9 (l := w) (by omega)
 obtain ⟨W', h1, h2, h3⟩ := h.store key_str Tryz.underlying85 hk (.bool true) (fun y hy e => hm (by
  obtain ⟨u, hu, rfl⟩ := List.mem_map.1 hy
  have : u = w := by simpa using e
  rw [← this]; exact hu))
 refine ⟨W', h1, ?_, h3⟩
 have e : seenL (seen ++ [w]) = seenL seen ++ [(.string ⟨w.toArray⟩, .bool true)] := by simp [seenL]
 rw [e]; exact h2
def optsS (dry : Bool) (sy : SymS) : Nat → List (List UInt8) → Lnk → List (List UInt8) → PR Lnk
 | 0, _, _, _ => .error 0
 | _ + 1, _, l, [] => .ok (l, [])
 | f + 1, seen, l, w :: r =>
  if w ∈ seen then .error 3
  else if w = kCost then bindS (valueS dry sy 1 65535 r) fun v q => (match acceptS kBack q with | (true, q2) => bindS (valueS dry sy 1 65535 q2) fun u q3 => optsS dry sy f (seen ++ [w]) { l with c0 := v, c1 := u } q3 | (false, q2) => optsS dry sy f (seen ++ [w]) { l with c0 := v, c1 := v } q2)
  else if w = kCapacity then bindS (valueS dry sy 0 1048576 r) fun v q => optsS dry sy f (seen ++ [w]) { l with cap := v } q
  else if w = kDelay then bindS (valueS dry sy 1 65536 r) fun v q => optsS dry sy f (seen ++ [w]) { l with dl := v } q
  else if w = kGroup then bindS (valueS dry sy 0 64 r) fun v q => optsS dry sy f (seen ++ [w]) { l with g := v } q
  else .error 3
def linkK (dry : Bool) (c : Cf) (x : List UInt8) (l : Lnk) (ws : List (List UInt8)) : Except Int Cf := effS (finP dry (lookS c.sym x).isSome (decide (c.lnames.length = 256)) ws) c { c with sym := c.sym ++ [(x, (2, (c.lnames.length : Int)))], lnames := c.lnames ++ [x], links := c.links ++ [l] }
def linkS (dry : Bool) (c : Cf) (ws : List (List UInt8)) : Except Int Cf :=
 bindS (nameS ws) fun x r1 => bindS (endsS dry c.sym r1) fun ab r2 => bindS (optsS dry c.sym (r2.length + 1) [] ⟨ab.1, ab.2, 1, 1, 0, 1, 0⟩ r2) fun l r3 => linkK dry c x l r3
theorem LoN.map {pb mb : Nat} {W w1 w2 : World} (h : LoN pb W w1) (hg : w1.grownBy w2 (some mb)) (hm : W.heap.size ≤ mb) : LoN pb W w2 :=
 ⟨hg.os.trans h.os, hg.tape.trans h.tape, hg.output.trans h.output, Nat.le_trans h.size hg.size, fun k hk hn => (hg.block k (Nat.lt_of_lt_of_le hk h.size) (fun e => by injection e with e; omega)).trans (h.blk k hk hn),
  fun k o hk ho => by
   have hlt := (Array.getElem?_eq_some_iff.1 hk).1
   exact (hg.block k (Nat.lt_of_lt_of_le hlt h.size) (fun e => by injection e with e; omega)).trans (h.oth k o hk ho)⟩
section
variable {pb : Nat} {k : List Value} {A : Option Addr} {cw : Nat} {all : List (List UInt8)} {dry : Bool} {sb : Nat} {sy : SymS} {rest : List (List UInt8)} {W : World}
theorem PS.mapO {mb : Nat} {r : List (List UInt8)} {Wa w2 : World} (h : PS pb k A cw all dry sb sy r Wa) (hp : PS pb k A cw all dry sb sy rest W) (hg : Wa.grownBy w2 (some mb)) (hn : W.heap.size ≤ mb) : PS pb k A cw all dry sb sy r w2 := by
 have h1 := hp.lt
 have h2 := hp.sm.lt
 have e : ∀ b, b < W.heap.size → b < Wa.heap.size → w2.heap[b]? = Wa.heap[b]? := fun b hb hb2 => hg.block b hb2 (fun e => by injection e with e; omega)
 exact ⟨(e pb h1 h.lt).trans h.blk, h.kl, h.suf, rd_blocks h.rd (fun b o s e' => e b (hp.aw b o s e').2 (h.aw b o s e').2), fun b o s e' => ⟨(h.aw b o s e').1, Nat.lt_of_lt_of_le (h.aw b o s e').2 hg.size⟩, h.al, h.sk, h.sm.kept (e sb h2 h.sm.lt), h.sn⟩
end
theorem lk_cells {w : World} {g : Nat} {l : Lnk} {T : TypeId} (h : w.heap[g]? = some (.cells (lkV l).toArray T (0, 0))) : w.cell? ⟨g, 0, none⟩ = some (.int .i64 l.a) ∧ w.cell? ⟨g, 1, none⟩ = some (.int .i64 l.b) ∧ w.cell? ⟨g, 2, none⟩ = some (.int .i64 l.c0) ∧ w.cell? ⟨g, 3, none⟩ = some (.int .i64 l.c1) ∧ w.cell? ⟨g, 4, none⟩ = some (.int .i64 l.cap) ∧ w.cell? ⟨g, 5, none⟩ = some (.int .i64 l.dl) ∧ w.cell? ⟨g, 6, none⟩ = some (.int .i64 l.g) ∧ ∀ i, w.frozen? ⟨g, i, none⟩ = false :=
 ⟨(Lib.cell_of_heap h 0).trans rfl, (Lib.cell_of_heap h 1).trans rfl, (Lib.cell_of_heap h 2).trans rfl, (Lib.cell_of_heap h 3).trans rfl, (Lib.cell_of_heap h 4).trans rfl, (Lib.cell_of_heap h 5).trans rfl, (Lib.cell_of_heap h 6).trans rfl, fun i => Lib.frozen_of_heap h i⟩
theorem lnkInfo' : (Tryz.prog.info? 44).map (fun i => (i.zero, i.size, i.bytes)) = some (some (.agg #[.int .i64 0, .int .i64 0, .int .i64 0, .int .i64 0, .int .i64 0, .int .i64 0, .int .i64 0]), 7, 56) := by kernel_rfl
/-- Where the options are read: the link's block and the map of the options that were seen. -/
structure OP (lb mb : Nat) (l : Lnk) (seen : List (List UInt8)) (n0 : Nat) (W : World) : Prop where
 b : W.heap[lb]? = some (.cells (lkV l).toArray 44 (0, 0))
 m : MapAt Tryz.prog 9 mb (seenL seen) W
 h : n0 ≤ lb ∧ n0 ≤ mb
theorem OP.lo {lb mb n0 pb : Nat} {l : Lnk} {seen : List (List UInt8)} {W W' : World} (h : OP lb mb l seen n0 W) (hl : LoN pb W W') (hp : pb < n0) : OP lb mb l seen n0 W' :=
 ⟨(hl.blk lb (lt_of_heap h.b) (by simp; have := h.h; omega)).trans h.b, h.m.kept (hl.blk mb h.m.lt (by simp; have := h.h; omega)), h.h⟩
theorem OP.ne {lb mb n0 : Nat} {l : Lnk} {seen : List (List UInt8)} {W : World} (h : OP lb mb l seen n0 W) : lb ≠ mb := fun e => by
 obtain ⟨es, cl, h1, _⟩ := h.m
 rw [← e, h.b] at h1; cases h1
theorem OP.set {lb mb n0 : Nat} {l l' : Lnk} {seen : List (List UInt8)} {W : World} (h : OP lb mb l seen n0 W) (j : Nat) (v : Value) (e : (lkV l).toArray.setIfInBounds j v = (lkV l').toArray) : OP lb mb l' seen n0 (W.setCell ⟨lb, j, none⟩ v) :=
 ⟨by rw [heap_setCell_same _ _ j _ _ v h.b, e], h.m.kept (Below.heap_setCell _ _ _ _ (by simpa using h.ne.symm)), h.h⟩
theorem factor_len {dry : Bool} {sy : SymS} : ∀ {ws ops : List (List UInt8)} {vs : List Int} {os : List (List UInt8)} {us : List Int} {r : List (List UInt8)}, factorS dry sy ws ops vs = .ok ((os, us), r) → r.length < ws.length
 | [], _, _, _, _, _, e => by cases e
 | w :: t, ops, vs, os, us, r, e => by
  simp only [factorS] at e
  split at e
  ·have := factor_len e; simp; omega
  ·split at e
   ·have := factor_len e; simp; omega
   ·split at e
    ·injection e with e
     injection e with _ e
     subst e
     simp
    ·cases hu : useS dry sy 3 (w :: t) with
     | error c => rw [hu] at e; cases e
     | ok p =>
      obtain ⟨v, r'⟩ := p
      rw [hu] at e
      injection e with e
      injection e with _ e
      subst e
      simp only [useS] at hu
      split at hu
      ·cases hv : useOf dry 3 (lookS sy w) with
       | error c => rw [hv] at hu; cases hu
       | ok v' =>
        rw [hv] at hu
        injection hu with hu
        injection hu with _ hu
        subst hu
        simp
      ·cases hu
theorem close_len {dry : Bool} : ∀ {ws ops : List (List UInt8)} {vs : List Int} {x : List (List UInt8) × List Int} {r : List (List UInt8)}, closeS dry ws ops vs = .ok (x, r) → r.length ≤ ws.length
 | [], _, _, _, _, e => by
  simp only [closeS] at e
  injection e with e
  injection e with _ e
  subst e
  simp
 | w :: t, ops, vs, x, r, e => by
  simp only [closeS] at e
  split at e
  ·cases hc : combineS dry 1 ops vs with
   | error c => rw [hc] at e; cases e
   | ok p =>
    obtain ⟨o2, v2⟩ := p
    rw [hc] at e
    have := close_len e
    simp; omega
  ·injection e with e
   injection e with _ e
   subst e
   exact Nat.le_refl _
theorem expr_len {dry : Bool} {sy : SymS} : ∀ {f : Nat} {ws ops : List (List UInt8)} {vs : List Int} {v : Int} {r : List (List UInt8)}, exprF dry sy f ws ops vs = .ok (v, r) → r.length < ws.length
 | 0, _, _, _, _, _, e => by cases e
 | f + 1, ws, ops, vs, v, r, e => by
  cases h1 : factorS dry sy ws ops vs with
  | error c => rw [exprF_e1 h1] at e; cases e
  | ok p1 =>
   obtain ⟨⟨o1, v1⟩, r1⟩ := p1
   have l1 := factor_len h1
   cases h2 : closeS dry r1 o1 v1 with
   | error c => rw [exprF_e2 h1 h2] at e; cases e
   | ok p2 =>
    obtain ⟨⟨o2, v2⟩, r2⟩ := p2
    have l2 := close_len h2
    by_cases h3 : rankS (peekS r2) = 0
    ·rw [exprF_end h1 h2 h3] at e
     cases h4 : endS dry o2 v2 with
     | error c => rw [h4] at e; cases e
     | ok z =>
      rw [h4] at e
      injection e with e
      injection e with _ e
      subst e
      omega
    ·cases h4 : combineS dry (rankS (peekS r2)) o2 v2 with
     | error c => rw [exprF_e3 h1 h2 h3 h4] at e; cases e
     | ok p3 =>
      obtain ⟨o3, v3⟩ := p3
      rw [exprF_go h1 h2 h3 h4] at e
      have := expr_len e
      simp at this
      omega
theorem valueS_len {dry : Bool} {sy : SymS} {lo hi v : Int} {ws r : List (List UInt8)} (e : valueS dry sy lo hi ws = .ok (v, r)) : r.length < ws.length := by
 unfold valueS at e
 cases h : exprS dry sy ws with
 | error c => rw [h] at e; cases e
 | ok p =>
  obtain ⟨v', r'⟩ := p
  rw [h] at e
  simp only at e
  split at e
  ·cases e
  ·injection e with e
   injection e with _ e
   subst e
   exact expr_len h
theorem accept_len {w : List UInt8} {ws q : List (List UInt8)} {o : Bool} (e : acceptS w ws = (o, q)) : q.length ≤ ws.length := by
 cases ws with
 | nil => injection e with _ e; subst e; exact Nat.le_refl _
 | cons x r =>
  simp only [acceptS] at e
  split at e <;> (injection e with _ e; subst e; simp)
section
variable {B pb sb xb yb : Nat} {r : Rws} {c : Cf} {wv : Value} {i : Nat} {dry : Bool} {W w1 : World}
theorem St.drew (h : St B pb sb xb yb r c wv i dry W) : St B pb sb xb yb r c wv i dry W.drew := ⟨h.blk, h.rows.keep (fun _ _ _ => rfl), h.sm.kept rfl, h.xm.kept rfl, h.ym.kept rfl, h.lim, h.ll, h.bl, h.sz⟩
theorem LoM.drew {X : List Nat} {W W' : World} (h : LoM B X W W') : LoM B X W W'.drew := ⟨h.os, h.tape, h.output, h.size, h.blk, h.oth⟩
theorem St.pushK {l : Lnk} {g cap : Nat} {tmp : Obj} (h : St B pb sb xb yb r c wv i dry W) (hown : w1.ownsRow B 44 7 (.slice (some ⟨g, 0, none⟩) (c.links.length + 1) cap) (c.links.length + 1) (c.links.flatMap lkV ++ lkV l))
  (hg : (W.alloc tmp).grownBy w1 (Value.slice r.aK c.links.length r.cK).ownBlock) (hat : (Value.slice r.aK c.links.length r.cK).ownBlock = some g ∨ g = (W.alloc tmp).heap.size) (hlim : c.links.length < c.lnames.length) :
  St B pb sb xb yb { r with aK := some ⟨g, 0, none⟩, cK := cap } { c with links := c.links ++ [l] } wv i dry (w1.setCell ⟨pb, 4, none⟩ (.slice (some ⟨g, 0, none⟩) (c.links.length + 1) cap)) ∧ LoM B [pb, sb, xb, yb] W (w1.setCell ⟨pb, 4, none⟩ (.slice (some ⟨g, 0, none⟩) (c.links.length + 1) cap)) ∧ w1.cell? ⟨pb, 4, none⟩ = some (.slice r.aK c.links.length r.cK) ∧ w1.frozen? ⟨pb, 4, none⟩ = false := by
 have hr := Rows.push (L1 := [_, _]) (R := ⟨44, 7, r.aK, r.cK, c.links.length, c.links.flatMap lkV⟩) h.rows hown hg hat
 refine h.pushG (h.loA h.ownK hg) (r' := { r with aK := some ⟨g, 0, none⟩, cK := cap }) (c' := { c with links := c.links ++ [l] }) ?_ (by decide) (by simp [kOf]) rfl rfl rfl ⟨h.lim.names, h.lim.lnames, by simp; omega, h.lim.pfx, h.lim.pols, h.lim.dems, h.lim.ov, h.lim.tm, h.lim.giv, h.lim.sy⟩ h.ll
 simpa [rowsOf] using hr
end
end Go.Proofs.YtfimacgmciogmaaGreatDoor
