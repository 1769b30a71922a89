/-
  config's parser: timer (printed by gen_cfgt.py).
-/
import Derived.Test.YtpofbhaipeiegaaGreatDoorCfgR
namespace Go.Proofs.YtpofbhaipeiegaaGreatDoor
set_option linter.unusedSimpArgs false
set_option linter.unusedVariables false
open Go.RowKit Go.Shelf Go.Sort

def tNames : List (List UInt8) := [[104, 101, 108, 108, 111], [100, 101, 97, 100], [100, 101, 116, 101, 99, 116], [103, 97, 116, 104, 101, 114], [104, 111, 108, 100]]
def idxS : List (List UInt8) → List UInt8 → Nat → Int
  | [], _, _ => -1
  | y :: r, x, k => if x = y then (k : Int) else idxS r x (k + 1)
theorem idxS_hit {xs : List (List UInt8)} {x : List UInt8} {k : Nat} (h : xs[k]? = some x) : idxS (xs.drop k) x k = k := by
  obtain ⟨h1, h2⟩ := List.getElem?_eq_some_iff.1 h
  rw [List.drop_eq_getElem_cons h1, idxS, if_pos h2.symm]
theorem idxS_miss {xs : List (List UInt8)} {x y : List UInt8} {k : Nat} (h : xs[k]? = some y) (hn : (x == y) = false) : idxS (xs.drop k) x k = idxS (xs.drop (k + 1)) x (k + 1) := by
  obtain ⟨h1, h2⟩ := List.getElem?_eq_some_iff.1 h
  rw [List.drop_eq_getElem_cons h1, idxS, if_neg (by rw [h2]; simpa using hn)]
theorem idx_cases (x : List UInt8) : idxS tNames x 0 = -1 ∨ idxS tNames x 0 = 0 ∨ idxS tNames x 0 = 1 ∨ idxS tNames x 0 = 2 ∨ idxS tNames x 0 = 3 ∨ idxS tNames x 0 = 4 := by
  simp only [tNames, idxS]
  split
  · simp
  · split
    · simp
    · split
      · simp
      · split
        · simp
        · split <;> simp
theorem strs_here {w : World} {A : Option Addr} {xs : List (List UInt8)} {k : Nat} (h : Rd w A (xs.map strW)) (hk : k < xs.length) : ∃ b o x, A = some ⟨b, o, none⟩ ∧ xs[k]? = some x ∧ w.cell? ⟨b, o + k, none⟩ = some (.string ⟨x.toArray⟩) := by
  obtain ⟨b, o, h1, h2⟩ := h.at_ (k := k) (u := strW xs[k]) (by simp [List.getElem?_eq_getElem hk])
  exact ⟨b, o, xs[k], h1, List.getElem?_eq_getElem hk, h2⟩
theorem slices_Index (A : Option Addr) (cc : Nat) (xs : List (List UInt8)) (x : List UInt8) (w : World) (hA : Rd w A (xs.map strW)) (hm : xs.length ≤ 100000) : Calls Tryz.prog 100 #[.slice A xs.length cc, .string ⟨x.toArray⟩] w fun e w' => e = .returned (.int .i64 (idxS xs x 0)) ∧ w = w' := by
  obtain ⟨V, hV⟩ : ∃ V, V = idxS xs x 0 := ⟨_, rfl⟩
  rw [← hV]
  have HV := Lib.hid hV
  have HA := Lib.hid hA
  clear hV hA
  go_enter Tryz.func100, Tryz.ntmps100
  go_wp2
  go_loop [8] (fun i => ∃ k : Nat, k ≤ xs.length ∧ i = .int .i64 k ∧ Hid (V = idxS (xs.drop k) x k)) (fun i => xs.length - (intOf i).toNat)
  case atStart => exact ⟨0, Nat.zero_le _, rfl, HV⟩
  case round =>
    clear HV
    obtain ⟨k, hk, rfl, HV⟩ := hrel
    by_cases hlt : k < xs.length
    · have hlt' : (k : Int) < (xs.length : Int) := by omega
      obtain ⟨b, o, y, rfl, hy, q0⟩ := strs_here HA.out hlt
      have HY := Lib.hid hy
      clear hy
      cases hp : (x == y) with
      | true =>
        have e : x = y := by simpa using hp
        subst e
        have HR : Hid (V = (k : Int)) := Lib.hid (HV.out.trans (idxS_hit HY.out))
        go_wp2
        go_ret
        exact ⟨by rw [HR.out]; rfl, rfl⟩
      | false =>
        have HR := Lib.hid (HV.out.trans (idxS_miss HY.out hp))
        go_wp2
        go_round
        case rel => exact ⟨k + 1, by omega, by go_num, HR⟩
        case measure => simp [intOf]; omega
    · obtain rfl : k = xs.length := by omega
      have HR : Hid (V = -1) := Lib.hid (by rw [HV.out, List.drop_length]; rfl)
      go_wp2
      go_ret
      exact ⟨by rw [HR.out]; rfl, rfl⟩
theorem cfg_timerNames (w : World) : Calls Tryz.prog 51 #[] w fun e w' => e = .returned (.slice (some ⟨w.heap.size, 0, none⟩) tNames.length 5) ∧ Rd w' (some ⟨w.heap.size, 0, none⟩) (tNames.map strW) ∧ Below w.heap.size w w' ∧ w.heap.size < w'.heap.size := by
  go_enter Tryz.func51, Tryz.ntmps51
  go_wp2
  go_ret
  refine ⟨rfl, .inr ⟨_, _, rfl, ?_⟩, below_box _ _, by simp⟩
  intro i v hv
  rw [Nat.zero_add, Lib.cell_of_heap (heap_alloc_new w _)]
  simpa [tNames, strW] using hv
theorem getD_set {α : Type} (l : List α) (k j : Nat) (v d : α) (hk : k < l.length) : (l.set k v).getD j d = if k = j then v else l.getD j d := by
  simp only [List.getD_eq_getElem?_getD, List.getElem?_set]
  by_cases e : k = j
  · subst e; simp [hk]
  · simp [e]
def timerK (dry : Bool) (c : Cf) (k : Nat) (ws : List (List UInt8)) : Except Int Cf :=
  bindS (expectS kEq ws) fun _ r2 => bindS (valueS dry c.sym 1 65536 r2) fun n r3 => effS (finP dry (c.giv.getD k false) false r3) c { c with giv := c.giv.set k true, tm := c.tm.set k n }
def timerB (dry : Bool) (c : Cf) (i : Int) (ws : List (List UInt8)) : Except Int Cf := if i < 0 then .error 3 else timerK dry c i.toNat ws
def timerS (dry : Bool) (c : Cf) (ws : List (List UInt8)) : Except Int Cf := bindS (nextS ws) fun w r1 => timerB dry c (idxS tNames w 0) r1
section
variable {B pb sb xb yb : Nat} {r : Rws} {c : Cf} {A : Option Addr} {cw : Nat} {all : List (List UInt8)} {dry : Bool} {rest rest' : List (List UInt8)} {W W' : World}
theorem kOf_giv (r : Rws) (c : Cf) (sb xb yb k : Nat) (hk : k < 5) (h : c.giv.length = 5) : kOf r { c with giv := c.giv.set k true } sb xb yb = (kOf r c sb xb yb).set (17 + k) (.bool true) := by
  have e := fun j => getD_set c.giv k j true false (by omega)
  have : k = 0 ∨ k = 1 ∨ k = 2 ∨ k = 3 ∨ k = 4 := by omega
  rcases this with rfl | rfl | rfl | rfl | rfl <;> simp only [kOf, e] <;> rfl
theorem kOf_tm (r : Rws) (c : Cf) (sb xb yb k : Nat) (n : Int) (hk : k < 5) (h : c.tm.length = 5) : kOf r { c with tm := c.tm.set k n } sb xb yb = (kOf r c sb xb yb).set (8 + k) (.int .i64 n) := by
  have e := fun j => getD_set c.tm k j n 0 (by omega)
  have : k = 0 ∨ k = 1 ∨ k = 2 ∨ k = 3 ∨ k = 4 := by omega
  rcases this with rfl | rfl | rfl | rfl | rfl <;> simp only [kOf, e] <;> rfl
theorem St.timer {wv : Value} {i k : Nat} {n : Int} (h : St B pb sb xb yb r c wv i dry W) (hk : k < 5) :
    St B pb sb xb yb r { c with giv := c.giv.set k true, tm := c.tm.set k n } wv i dry ((W.setCell ⟨pb, 17 + k, none⟩ (.bool true)).setCell ⟨pb, 8 + k, none⟩ (.int .i64 n)) ∧ LoM B [pb, sb, xb, yb] W ((W.setCell ⟨pb, 17 + k, none⟩ (.bool true)).setCell ⟨pb, 8 + k, none⟩ (.int .i64 n)) := by
  have h1 := h.pushG (r' := r) (c' := { c with giv := c.giv.set k true }) (j := 17 + k) (v := .bool true) (LoP.refl _ _ _) h.rows (by omega) (kOf_giv r c sb xb yb k hk h.lim.giv) rfl rfl rfl ⟨h.lim.names, h.lim.lnames, h.lim.links, h.lim.pfx, h.lim.pols, h.lim.dems, h.lim.ov, h.lim.tm, by simpa using h.lim.giv, h.lim.sy⟩ h.ll
  have h2 := h1.1.pushG (r' := r) (c' := { c with giv := c.giv.set k true, tm := c.tm.set k n }) (j := 8 + k) (v := .int .i64 n) (LoP.refl _ _ _) h1.1.rows (by omega) (kOf_tm r { c with giv := c.giv.set k true } sb xb yb k n hk h.lim.tm) rfl rfl rfl ⟨h.lim.names, h.lim.lnames, h.lim.links, h.lim.pfx, h.lim.pols, h.lim.dems, h.lim.ov, by simpa using h.lim.tm, by simpa using h.lim.giv, h.lim.sy⟩ h.ll
  exact ⟨h2.1, h1.2.1.trans h2.2.1⟩
set_option maxHeartbeats 8000000 in
set_option maxRecDepth 100000 in
theorem cfg_timer (h : LS B pb sb xb yb r c A cw all dry rest W) : Calls Tryz.prog 62 #[.pointer (some ⟨pb, 0, none⟩)] W (RetS B pb sb xb yb r c A cw all dry W (timerS dry c rest)) := by
  obtain ⟨V, hV⟩ : ∃ V, V = timerS dry c rest := ⟨_, rfl⟩
  rw [← hV]
  simp only [timerS] at hV
  have HV := Lib.hid hV
  have H0 := Lib.hid h
  have HP := Lib.hid h.ps
  have HN := Lib.hid (LoN.refl pb W)
  have HSY := Lib.hid h.st.lim.sy
  obtain ⟨gv0, hgv0⟩ : ∃ b, b = c.giv.getD 0 false := ⟨_, rfl⟩
  have HG0 := Lib.hid hgv0
  obtain ⟨gv1, hgv1⟩ : ∃ b, b = c.giv.getD 1 false := ⟨_, rfl⟩
  have HG1 := Lib.hid hgv1
  obtain ⟨gv2, hgv2⟩ : ∃ b, b = c.giv.getD 2 false := ⟨_, rfl⟩
  have HG2 := Lib.hid hgv2
  obtain ⟨gv3, hgv3⟩ : ∃ b, b = c.giv.getD 3 false := ⟨_, rfl⟩
  have HG3 := Lib.hid hgv3
  obtain ⟨gv4, hgv4⟩ : ∃ b, b = c.giv.getD 4 false := ⟨_, rfl⟩
  have HG4 := Lib.hid hgv4
  clear hV h hgv0 hgv1 hgv2 hgv3 hgv4
  go_enter Tryz.func62, Tryz.ntmps62
  go_wp2_with (first | (go_at_call 51; (first | ((with_reducible refine (cfg_timerNames _).mono ?_))); (first | (rintro e w9 ⟨rfl, hn, hb1, hz⟩)); (first | (have HNB := Lib.hid (And.intro (Nat.ne_of_gt HP.out.lt) hz))); (first | (replace HN := Lib.hid (HN.out.trans (LoN.below hb1)))); (first | (replace HP := Lib.hid (HP.out.up hb1))); (first | (have HNA := Lib.hid hn)); (first | (clear hb1 hn hz))) | (go_at_call 93; (first | ((with_reducible refine (cfg_next HP.out).mono ?_))); (first | (rintro e w1 hr)); (first | (generalize hU : nextS _ = U at hr HV)); (first | (rcases U with c1 | ⟨w, r1⟩)); (first | (focus (obtain ⟨rfl, hl1⟩ := hr; obtain rfl := HV.out; exact ⟨rfl, rfl, (HN.out.trans hl1)⟩))); (first | (obtain ⟨rfl, hp1, hl1⟩ := hr)); (first | (simp only [encS])); (first | (simp only [bindS] at HV)); (first | (skip)); (first | (replace HP := Lib.hid hp1)); (first | (replace HN := Lib.hid (HN.out.trans hl1))); (first | (replace HNA := Lib.hid (rd_blocks HNA.out (fun b o s e => by injection e with e; injection e with e1; subst e1; exact hl1.blk _ HNB.out.2 (by simpa using HNB.out.1))))); (first | (clear hp1 hl1 hU))) | (go_at_call 100; (first | ((with_reducible refine (slices_Index _ _ tNames _ _ HNA.out (by decide)).mono ?_))); (first | (rintro e w9 ⟨rfl, rfl⟩)); (first | (have hc := idx_cases w)); (first | (generalize hI : idxS tNames w 0 = ii at hc HV)); (first | (clear hI)); (first | (rcases hc with rfl | rfl | rfl | rfl | rfl | rfl))) | (go_at_call 63; (first | ((with_reducible refine (cfg_grammar_no _ _).mono ?_))); (first | (rintro e w9 ⟨rfl, rfl⟩)); (first | (obtain rfl : V = .error 3 := HV.out)); (first | (exact ⟨rfl, rfl, HN.out⟩))) | (go_at_call 63; (first | ((with_reducible refine (cfg_grammar_ok _ _).mono ?_))); (first | (rintro e w9 ⟨rfl, rfl⟩)); (first | (simp only [timerB, timerK, kEq, bindS, Int.reduceLT, if_false, Int.reduceToNat, ↓reduceIte, ← HG0.out, ← HG1.out, ← HG2.out, ← HG3.out, ← HG4.out] at HV))) | (go_at_call 95; (first | ((with_reducible refine (cfg_expect HP.out _ (by decide)).mono ?_))); (first | (rintro e w1 hr)); (first | (generalize hU : expectS _ _ = U at hr HV)); (first | (rcases U with c1 | ⟨v1, r1⟩)); (first | (focus (obtain ⟨rfl, hl1⟩ := hr; obtain rfl := HV.out; exact ⟨rfl, rfl, (HN.out.trans hl1)⟩))); (first | (obtain ⟨rfl, hp1, hl1⟩ := hr)); (first | (skip)); (first | (simp only [bindS] at HV)); (first | (skip)); (first | (replace HP := Lib.hid hp1)); (first | (replace HN := Lib.hid (HN.out.trans hl1))); (first | (skip)); (first | (clear hp1 hl1 hU))) | (go_at_call 94; (first | ((with_reducible refine (cfg_value HP.out HSY.out 1 65536).mono ?_))); (first | (rintro e w1 hr)); (first | (generalize hU : valueS _ _ 1 65536 _ = U at hr HV)); (first | (rcases U with c1 | ⟨n, r1⟩)); (first | (focus (obtain ⟨rfl, hl1⟩ := hr; obtain rfl := HV.out; exact ⟨rfl, rfl, (HN.out.trans hl1)⟩))); (first | (obtain ⟨rfl, hp1, hl1⟩ := hr)); (first | (simp only [encI])); (first | (simp only [bindS] at HV)); (first | (skip)); (first | (replace HP := Lib.hid hp1)); (first | (replace HN := Lib.hid (HN.out.trans hl1))); (first | (have g0 : w1.cell? ⟨pb, 17, none⟩ = some (.bool gv0) := (hp1.kc 17 (by decide)).trans (by rw [HG0.out]; rfl))); (first | (have g1 : w1.cell? ⟨pb, 18, none⟩ = some (.bool gv1) := (hp1.kc 18 (by decide)).trans (by rw [HG1.out]; rfl))); (first | (have g2 : w1.cell? ⟨pb, 19, none⟩ = some (.bool gv2) := (hp1.kc 19 (by decide)).trans (by rw [HG2.out]; rfl))); (first | (have g3 : w1.cell? ⟨pb, 20, none⟩ = some (.bool gv3) := (hp1.kc 20 (by decide)).trans (by rw [HG3.out]; rfl))); (first | (have g4 : w1.cell? ⟨pb, 21, none⟩ = some (.bool gv4) := (hp1.kc 21 (by decide)).trans (by rw [HG4.out]; rfl))); (first | (clear hp1 hl1 hU))) | (go_at_call 89; (first | ((with_reducible refine (cfg_finish HP.out _ _).mono ?_))); (first | (rintro e w4 hr)); (first | (generalize hU : finP _ _ _ _ = U at hr HV)); (first | (rcases U with c1 | ⟨eff, r1⟩)); (first | (focus (obtain ⟨rfl, hl1⟩ := hr; obtain rfl := HV.out; exact ⟨rfl, rfl, (HN.out.trans hl1)⟩))); (first | (obtain ⟨rfl, hp1, hl1⟩ := hr)); (first | (simp only [encB])); (first | (replace HP := Lib.hid hp1)); (first | (replace HN := Lib.hid (HN.out.trans hl1))); (first | (clear g0 g1 g2 g3 g4)); (first | (clear hp1 hl1)); (first | (cases eff)); (first | (focus (have HDR := Lib.hid (finP_false hU).1; clear hU))); (first | (rotate_left)); (first | ((have H4 := Lib.hid (H0.out.read HP.out HN.out).st; have x0 : w4.cell? ⟨pb, 17, none⟩ = some (.bool (c.giv.getD 0 false)) := H4.out.cell 17 (by decide); have y0 : w4.cell? ⟨pb, 8, none⟩ = some (.int .i64 (c.tm.getD 0 0)) := H4.out.cell 8 (by decide); have x1 : w4.cell? ⟨pb, 18, none⟩ = some (.bool (c.giv.getD 1 false)) := H4.out.cell 18 (by decide); have y1 : w4.cell? ⟨pb, 9, none⟩ = some (.int .i64 (c.tm.getD 1 0)) := H4.out.cell 9 (by decide); have x2 : w4.cell? ⟨pb, 19, none⟩ = some (.bool (c.giv.getD 2 false)) := H4.out.cell 19 (by decide); have y2 : w4.cell? ⟨pb, 10, none⟩ = some (.int .i64 (c.tm.getD 2 0)) := H4.out.cell 10 (by decide); have x3 : w4.cell? ⟨pb, 20, none⟩ = some (.bool (c.giv.getD 3 false)) := H4.out.cell 20 (by decide); have y3 : w4.cell? ⟨pb, 11, none⟩ = some (.int .i64 (c.tm.getD 3 0)) := H4.out.cell 11 (by decide); have x4 : w4.cell? ⟨pb, 21, none⟩ = some (.bool (c.giv.getD 4 false)) := H4.out.cell 21 (by decide); have y4 : w4.cell? ⟨pb, 12, none⟩ = some (.int .i64 (c.tm.getD 4 0)) := H4.out.cell 12 (by decide); have xf : ∀ i, w4.frozen? ⟨pb, i, none⟩ = false := H4.out.frz; have HDR := Lib.hid (finP_true hU).1; clear hU))); (first | (rotate_left))))
  all_goals first
    | (go_end0; obtain rfl := HV.out; exact ⟨rfl, HN.out.toM H0.out.st.sz (by simp), _, _, (H0.out.read HP.out HN.out).st, (fun _ => ⟨rfl, rfl, HN.out⟩), rfl⟩)
    | (go_end0; obtain rfl := HV.out; exact ⟨rfl, (HN.out.toM H0.out.st.sz (by simp)).trans (H4.out.timer (k := 0) (by decide)).2, _, _, (H4.out.timer (k := 0) (by decide)).1, (fun h => by rw [HDR.out] at h; cases h), rfl⟩)
    | (go_end0; obtain rfl := HV.out; exact ⟨rfl, (HN.out.toM H0.out.st.sz (by simp)).trans (H4.out.timer (k := 1) (by decide)).2, _, _, (H4.out.timer (k := 1) (by decide)).1, (fun h => by rw [HDR.out] at h; cases h), rfl⟩)
    | (go_end0; obtain rfl := HV.out; exact ⟨rfl, (HN.out.toM H0.out.st.sz (by simp)).trans (H4.out.timer (k := 2) (by decide)).2, _, _, (H4.out.timer (k := 2) (by decide)).1, (fun h => by rw [HDR.out] at h; cases h), rfl⟩)
    | (go_end0; obtain rfl := HV.out; exact ⟨rfl, (HN.out.toM H0.out.st.sz (by simp)).trans (H4.out.timer (k := 3) (by decide)).2, _, _, (H4.out.timer (k := 3) (by decide)).1, (fun h => by rw [HDR.out] at h; cases h), rfl⟩)
    | (go_end0; obtain rfl := HV.out; exact ⟨rfl, (HN.out.toM H0.out.st.sz (by simp)).trans (H4.out.timer (k := 4) (by decide)).2, _, _, (H4.out.timer (k := 4) (by decide)).1, (fun h => by rw [HDR.out] at h; cases h), rfl⟩)
end

end Go.Proofs.YtpofbhaipeiegaaGreatDoor
