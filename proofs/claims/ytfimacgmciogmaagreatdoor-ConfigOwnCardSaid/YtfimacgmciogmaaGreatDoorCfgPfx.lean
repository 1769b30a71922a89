/-
  config's parser: prefix (printed by gen_cfgpfx.py).
-/
import Derived.Test.YtfimacgmciogmaaGreatDoorCfgPol
import Derived.Test.YtfimacgmciogmaaGreatDoorPkText
namespace Go.Proofs.YtfimacgmciogmaaGreatDoor
set_option linter.unusedSimpArgs false
set_option linter.unusedVariables false
open Go.RowKit Go.Shelf Go.Sort
/-- What reading numbers needs of the world. -/
def Env (pb : Nat) (W : World) : Prop := ∃ w0 : World, Errs w0 ∧ Tab w0.heap.size w0 ∧ Below w0.heap.size w0 W ∧ w0.heap.size ≤ pb
theorem Env.lo {pb : Nat} {W W' : World} (h : Env pb W) (hl : LoN pb W W') : Env pb W' := by
 obtain ⟨w0, h1, h2, h3, h4⟩ := h
 exact ⟨w0, h1, h2, h3.trans ⟨hl.os, hl.tape, hl.output, hl.size, fun k hk => hl.blk k (Nat.lt_of_lt_of_le hk h3.size) (by simp; omega)⟩, h4⟩
theorem Env.errs {pb : Nat} {W : World} (h : Env pb W) : Errs W := by
 obtain ⟨w0, h1, h2, h3, h4⟩ := h
 exact h1.up h3
theorem Env.tab {pb : Nat} {W : World} (h : Env pb W) : Tab W.heap.size W := by
 obtain ⟨w0, h1, h2, h3, h4⟩ := h
 exact tab_up h2 h3 h3.size
theorem two_cellsG {w : World} {b : Nat} {u v : Value} {t : TypeId} (h : w.heap[b]? = some (.cells #[u, v] t (0, 0))) : w.cell? ⟨b, 0, none⟩ = some u ∧ w.cell? ⟨b, 1, none⟩ = some v ∧ ∀ i, w.frozen? ⟨b, i, none⟩ = false :=
 ⟨(Lib.cell_of_heap h 0).trans rfl, (Lib.cell_of_heap h 1).trans rfl, fun i => Lib.frozen_of_heap h i⟩
def cntP (n : Int) (l : List (Int × Int × Int)) : Nat := (l.filter fun p => p.2.2 == n).length
theorem cntP_snoc {n : Int} {l : List (Int × Int × Int)} {k : Nat} {p : Int × Int × Int} (h : l[k]? = some p) : cntP n (l.take (k + 1)) = cntP n (l.take k) + (if (p.2.2 == n) = true then 1 else 0) := by
 obtain ⟨hk, rfl⟩ := List.getElem?_eq_some_iff.1 h
 unfold cntP
 rw [List.take_succ_eq_append_getElem hk, List.filter_append, List.length_append]
 congr 1
 simp only [List.filter_cons, List.filter_nil]
 split <;> rfl
theorem cntP_le (n : Int) (l : List (Int × Int × Int)) (k : Nat) : cntP n (l.take k) ≤ k := Nat.le_trans (List.length_filter_le _ _) (List.length_take_le _ _)
theorem ptext_ne {x y : Int} {s : List UInt8} (h : ptextS x y = s) (hs : s ≠ []) : pvalB x y = true := by
 unfold ptextS at h
 split at h
 ·assumption
 ·exact absurd h.symm hs
theorem pparse_in {s : List UInt8} {x y : Int} (h : pparseS s = some (x, y)) : (0 ≤ x ∧ x < 4294967296) ∧ inI y ∧ pvalB x y = true ∧ ptextS x y = s := by
 unfold pparseS at h
 split at h
 ·cases h
 ·rename_i hb
  split at h
  ·cases h
  ·rename_i x' hx
   split at h
   ·split at h
    ·rename_i y' hy ht
     injection h with h
     injection h with h1 h2
     subst h1 h2
     have hne : s ≠ [] := by
      rintro rfl
      exact hb (.inl rfl)
     have hv := ptext_ne ht hne
     refine ⟨octF_in _ _ _ (by omega) hx, ?_, hv, ht⟩
     unfold pvalB at hv
     simp at hv
     unfold inI
     omega
    ·cases h
   ·cases h
def prefixS (dry : Bool) (c : Cf) (ws : List (List UInt8)) : Except Int Cf :=
 bindS (nextS ws) fun w r1 => match pparseS w with
  | none => .error 3
  | some (x, y) => bindS (expectS kAt r1) fun _ r2 => bindS (useS dry c.sym 1 r2) fun n r3 =>
   effS (finP dry (decide ((x, y) ∈ c.xk)) (decide (cntP n c.pfx = 64)) r3) c { c with xk := c.xk ++ [(x, y)], pfx := c.pfx ++ [(x, y, n)] }
theorem routeInfo' : (Tryz.prog.info? 72).map (fun i => (i.zero, i.size, i.bytes)) = some (some (.agg #[.int .u32 0, .int .i64 0, .int .i64 0]), 3, 24) := by kernel_rfl
theorem pfl_at : ∀ (l : List (Int × Int × Int)) (k : Nat) (p : Int × Int × Int), l[k]? = some p → (l.flatMap pfV)[k * 3]? = some (.int .u32 p.1) ∧ (l.flatMap pfV)[k * 3 + 1]? = some (.int .i64 p.2.1) ∧ (l.flatMap pfV)[k * 3 + 2]? = some (.int .i64 p.2.2)
 | [], k, p, h => by simp at h
 | q :: r, 0, p, h => by
  simp at h; subst h
  simp [pfV]
 | q :: r, k + 1, p, h => by
  have := pfl_at r k p (by simpa using h)
  rw [List.flatMap_cons, show (k + 1) * 3 = k * 3 + 3 by omega]
  refine ⟨?_, ?_, ?_⟩
  ·rw [List.getElem?_append_right (by simp [pfV])]; simpa [pfV] using this.1
  ·rw [List.getElem?_append_right (by simp [pfV])]; simpa [pfV, Nat.add_sub_cancel_right, show k * 3 + 3 + 1 - 3 = k * 3 + 1 by omega] using this.2.1
  ·rw [List.getElem?_append_right (by simp [pfV])]; simpa [pfV, show k * 3 + 3 + 2 - 3 = k * 3 + 2 by omega] using this.2.2
section
variable {B pb sb xb yb : Nat} {r : Rws} {c : Cf} {A : Option Addr} {cw : Nat} {all : List (List UInt8)} {dry : Bool} {rest rest' : List (List UInt8)} {W W' : World} {wv : Value} {i : Nat}
theorem St.pfAt (h : St B pb sb xb yb r c wv i dry W) {k : Nat} {p : Int × Int × Int} (hp : c.pfx[k]? = some p) : ∃ g, r.aP = some ⟨g, 0, none⟩ ∧ c.pfx.length ≤ r.cP ∧ g < W.heap.size ∧ W.cell? ⟨g, k * 3, none⟩ = some (.int .u32 p.1) ∧ W.cell? ⟨g, k * 3 + 1, none⟩ = some (.int .i64 p.2.1) ∧ W.cell? ⟨g, k * 3 + 2, none⟩ = some (.int .i64 p.2.2) := by
 have ho := h.ownP
 have hk := (List.getElem?_eq_some_iff.1 hp).1
 have hl : (c.pfx.flatMap pfV).length = c.pfx.length * 3 := by
  have : ∀ l : List (Int × Int × Int), (l.flatMap pfV).length = l.length * 3 := by
   intro l
   induction l with
   | nil => rfl
   | cons q r ih => rw [List.flatMap_cons, List.length_append, ih]; simp [pfV]; omega
  exact this _
 obtain ⟨e1, e2, e3⟩ := pfl_at _ _ _ hp
 have hn : c.pfx.length ≠ 0 := by omega
 cases hA : r.aP with
 | none =>
  rw [hA] at ho
  rcases ho.2 with ⟨e, _⟩ | ⟨g, cap, cur, e, _⟩
  ·injection e with _ e _; exact absurd e hn
  ·injection e with e _ _; cases e
 | some a =>
  rw [hA] at ho
  obtain ⟨g, rfl, hcap⟩ : ∃ g, a = ⟨g, 0, none⟩ ∧ c.pfx.length ≤ r.cP := by
   rcases ho.2 with ⟨e, _⟩ | ⟨g, cap, cur, e, _, _, hle, _⟩
   ·injection e with e _ _; cases e
   ·injection e with e _ e2
    injection e with e
    exact ⟨g, e, by omega⟩
  refine ⟨g, rfl, hcap, (ho.lt g rfl).2, ?_, ?_, ?_⟩
  ·rw [ho.cellAt (k * 3) (by omega)]; exact e1
  ·rw [ho.cellAt (k * 3 + 1) (by omega)]; exact e2
  ·rw [ho.cellAt (k * 3 + 2) (by omega)]; exact e3
set_option maxHeartbeats 16000000 in
set_option maxRecDepth 100000 in
theorem cfg_prefix (h : LS B pb sb xb yb r c A cw all dry rest W) (hE : Env pb W) (hpl : c.pfx.length < 100000) : Calls Tryz.prog 36 #[.pointer (some ⟨pb, 0, none⟩)] W (RetS B pb sb xb yb r c A cw all dry W (prefixS dry c rest)) := by
 obtain ⟨k0, hi0, hi1, hi2, hi3⟩ := info_parts routeInfo'
 obtain ⟨V, hV⟩ : ∃ V, V = prefixS dry c rest := ⟨_, rfl⟩
 rw [← hV]
 simp only [prefixS, kAt] at hV
 have HV := Lib.hid hV
 have H0 := Lib.hid h
 have HP := Lib.hid h.ps
 have HN := Lib.hid (LoN.refl pb W)
 have HSY := Lib.hid h.st.lim.sy
 have HPW := Lib.hid h.ps.lt
 have HEV := Lib.hid hE
 have HLM := Lib.hid hpl
 clear hV h hE hpl
 cases rest with
 | nil =>
  go_enter Tryz.func36, Tryz.ntmps36
  go_wp2_with (go_at_call 63; (with_reducible refine (cfg_next HP.out).mono ?_); rintro e wn hr; obtain ⟨rfl, hl1⟩ := hr; obtain rfl := HV.out; exact ⟨rfl, rfl, hl1⟩)
 | cons v r1 =>
  simp only [nextS, bindS] at HV
  have HVL : Hid (v.length ≤ 10000) := Lib.hid HP.out.wl.2
  obtain ⟨PV, hPV⟩ : ∃ PV, PV = pparseS v := ⟨_, rfl⟩
  have HPA : Hid (∀ w', Env pb w' → Calls Tryz.prog 67 #[.string ⟨v.toArray⟩] w' (RetPx w' PV)) := Lib.hid fun w' h => by rw [hPV]; exact prefix_Parse v (by have := HVL.out; omega) w' h.errs h.tab
  rw [← hPV] at HV
  have HPI : Hid (∀ x y, PV = some (x, y) → (0 ≤ x ∧ x < 4294967296) ∧ inI y) := Lib.hid fun x y e => by
   have := pparse_in (hPV.symm.trans e)
   exact ⟨this.1, this.2.1⟩
  clear hPV
  cases PV with
  | none =>
   go_enter Tryz.func36, Tryz.ntmps36
   go_wp2_with (first | (go_at_call 63; (with_reducible refine (cfg_next HP.out).mono ?_); rintro e wn hr; obtain ⟨rfl, hp1, hl1⟩ := hr; simp only [encS]; replace HP := Lib.hid hp1; replace HN := Lib.hid (HN.out.trans hl1); replace HEV := Lib.hid (HEV.out.lo hl1); clear hp1 hl1) | (go_at_call 67; (refine (HPA.out _ HEV.out).mono ?_); rintro e wl ⟨rfl, hb1⟩; replace HN := Lib.hid (HN.out.trans (LoN.below hb1)); clear hb1) | (go_at_call 40; (with_reducible refine (cfg_grammar_no _ _).mono ?_); rintro e w5 ⟨rfl, rfl⟩))
   obtain rfl := HV.out
   exact ⟨rfl, rfl, HN.out.trans (LoN.below (below_box wl _))⟩
  | some xy =>
   obtain ⟨x, y⟩ := xy
   have HXI := Lib.hid (HPI.out x y rfl).1
   have HYI := Lib.hid (HPI.out x y rfl).2
   clear HPI
   simp only at HV
   go_enter Tryz.func36, Tryz.ntmps36
   go_wp2_with (first | (go_at_call 63; (with_reducible refine (cfg_next HP.out).mono ?_); rintro e wn hr; obtain ⟨rfl, hp1, hl1⟩ := hr; simp only [encS]; replace HP := Lib.hid hp1; replace HN := Lib.hid (HN.out.trans hl1); replace HEV := Lib.hid (HEV.out.lo hl1); clear hp1 hl1) | (go_at_call 67; (refine (HPA.out _ HEV.out).mono ?_); rintro e wl ⟨rfl, hb1⟩; replace HP := Lib.hid (HP.out.up hb1); replace HN := Lib.hid (HN.out.trans (LoN.below hb1)); replace HEV := Lib.hid (HEV.out.lo (pb := pb) (LoN.below hb1)); clear hb1; have HLB := Lib.hid HN.out.size; have HBX : Hid ((wl.alloc (.cells #[.int .u32 x, .int .i64 y] 70)).heap[wl.heap.size]? = some (.cells #[.int .u32 x, .int .i64 y] 70 (0, 0))) := Lib.hid (heap_alloc_new wl _); have hb2 := below_box wl (.cells #[.int .u32 x, .int .i64 y] 70); replace HP := Lib.hid (HP.out.up hb2); replace HN := Lib.hid (HN.out.trans (LoN.below hb2)); clear hb2) | (go_at_call 40; (with_reducible refine (cfg_grammar_ok _ _).mono ?_); rintro e w5 ⟨rfl, rfl⟩) | (go_at_call 65; (first | ((with_reducible refine (cfg_expect HP.out _ (by decide)).mono ?_))); (first | (rintro e w1 hr)); (first | (generalize hU : expectS _ _ = U at hr HV)); (first | (rcases U with c1 | ⟨v1, r1⟩)); (first | (focus (obtain ⟨rfl, hl1⟩ := hr; obtain rfl := HV.out; exact ⟨rfl, rfl, (HN.out.trans hl1)⟩))); (first | (obtain ⟨rfl, hp1, hl1⟩ := hr)); (first | (skip)); (first | (simp only [bindS] at HV)); (first | (skip)); (first | (replace HP := Lib.hid hp1)); (first | (replace HN := Lib.hid (HN.out.trans hl1))); (first | (replace HBX := Lib.hid ((hl1.blk wl.heap.size (lt_of_heap HBX.out) (by have := HLB.out; have := HPW.out; simp; omega)).trans HBX.out))); (first | (clear hp1 hl1 hU))) | (go_at_call 68; (first | ((with_reducible refine (cfg_use HP.out 1).mono ?_))); (first | (rintro e w1 hr)); (first | (generalize hU : useS _ _ 1 _ = U at hr HV)); (first | (rcases U with c1 | ⟨n, r1⟩)); (first | (focus (obtain ⟨rfl, hl1⟩ := hr; obtain rfl := HV.out; exact ⟨rfl, rfl, (HN.out.trans hl1)⟩))); (first | (obtain ⟨rfl, hp1, hl1⟩ := hr)); (first | (simp only [encI])); (first | (simp only [bindS] at HV)); (first | (have HIN := Lib.hid (useS_in HSY.out hU))); (first | (replace HP := Lib.hid hp1)); (first | (replace HN := Lib.hid (HN.out.trans hl1))); (first | (replace HBX := Lib.hid ((hl1.blk wl.heap.size (lt_of_heap HBX.out) (by have := HLB.out; have := HPW.out; simp; omega)).trans HBX.out))); (first | (have c5 : w1.cell? ⟨pb, 5, none⟩ = some (.slice r.aP c.pfx.length r.cP) := HP.out.kc 5 (by decide))); (first | (clear hp1 hl1 hU))))
   clear c5
   have HS1 := Lib.hid (H0.out.read HP.out HN.out).st
   have hpl := HLM.out
   go_loopw [5, 28] (fun cv iv wr => ∃ k : Nat, k ≤ c.pfx.length ∧ iv = .int .i64 k ∧ cv = .int .i64 ((cntP n (c.pfx.take k) : Nat) : Int) ∧ Hid (Below w1.heap.size w1 wr)) (fun _ iv _ => c.pfx.length - (intOf iv).toNat)
   case atStart => exact ⟨0, Nat.zero_le _, rfl, rfl, Lib.hid (Below.refl _ _)⟩
   case round =>
    obtain ⟨k, hk, rfl, rfl, HBW⟩ := hrel
    by_cases hlt : k < c.pfx.length
    ·have hlt2 : (k : Int) < (c.pfx.length : Int) := by omega
     obtain ⟨p, hp⟩ : ∃ p, c.pfx[k]? = some p := ⟨_, List.getElem?_eq_getElem hlt⟩
     obtain ⟨g, hg, hcap, hgl, q0, q1, q2⟩ := HS1.out.pfAt hp
     replace q0 := cell_up HBW.out q0
     replace q1 := cell_up HBW.out q1
     replace q2 := cell_up HBW.out q2
     have HK := Lib.hid (cntP_snoc (n := n) hp)
     have hcl := cntP_le n c.pfx k
     obtain ⟨p0, p1, p2⟩ := p
     simp only at q0 q1 q2 HK
     generalize cntP n (c.pfx.take k) = m at *
     clear hp hcap
     cases hb : (p2 == n) with
     | true =>
      go_wp2_with fail
      go_roundw
      case rel => exact ⟨k + 1, by omega, by go_num, by rw [HK.out, if_pos hb]; go_num, Lib.hid (below_next HBW.out (below_box wr _))⟩
      case measure => simp [intOf]; omega
     | false =>
      go_wp2_with fail
      go_roundw
      case rel => exact ⟨k + 1, by omega, by go_num, by rw [HK.out, hb]; go_num, Lib.hid (below_next HBW.out (below_box wr _))⟩
      case measure => simp [intOf]; omega
    ·obtain rfl : k = c.pfx.length := by omega
     rw [List.take_length]
     have hcl := cntP_le n c.pfx c.pfx.length
     rw [List.take_length] at hcl
     obtain ⟨m, hm⟩ : ∃ m, m = cntP n c.pfx := ⟨_, rfl⟩
     rw [← hm] at hcl ⊢
     obtain ⟨dup, hd⟩ : ∃ dup, dup = decide ((x, y) ∈ c.xk) := ⟨_, rfl⟩
     obtain ⟨f64, h6⟩ : ∃ f, f = decide (m = 64) := ⟨_, rfl⟩
     replace HV : Hid (V = effS (finP dry dup f64 r1) c { c with xk := c.xk ++ [(x, y)], pfx := c.pfx ++ [(x, y, n)] }) := Lib.hid (HV.out.trans (by rw [hd, h6, hm]))
     have h64 : ((m : Int) == 64) = f64 := by
      rw [h6]
      by_cases h : m = 64
      ·rw [h]; rfl
      ·rw [decide_eq_false h, beq_eq_false_iff_ne]; omega
     have HD := Lib.hid hd
     clear hd h6 hm
     obtain ⟨lb, hlb⟩ : ∃ lb, lb = wl.heap.size := ⟨_, rfl⟩
     rw [← hlb] at HBX HLB ⊢
     replace HBX := Lib.hid ((HBW.out.block lb (lt_of_heap HBX.out)).trans HBX.out)
     replace HP := Lib.hid (HP.out.up HBW.out)
     replace HN := Lib.hid (HN.out.trans (LoN.below HBW.out))
     clear HS1 hlb
     have HST := Lib.hid (H0.out.read HP.out HN.out).st
     have s1 : wr.cell? ⟨pb, 15, none⟩ = some (.map (some xb)) := HP.out.kc 15 (by decide)
     obtain ⟨s2, s3, sf⟩ := two_cellsG HBX.out
     have s4 : (Instr.lookup 48 (.map (some xb)) (.agg #[.int .u32 x, .int .i64 y]) false).run Tryz.prog wr.drew = .ok (.bool dup) wr.drew := (pfx_look HST.out.drew.xm x y HXI.out HYI.out).trans (by rw [HD.out])
     go_wp2_with fail
     refine wp_region_held_drew (S := (fun w' => w'.cell? ⟨pb, 15, none⟩ = some (.map (some xb)) ∧ w'.cell? ⟨lb, 0, none⟩ = some (.int .u32 x) ∧ w'.cell? ⟨lb, 1, none⟩ = some (.int .i64 y) ∧ (Instr.lookup 48 (.map (some xb)) (.agg #[.int .u32 x, .int .i64 y]) false).run Tryz.prog w' = .ok (.bool dup) w')) (by kernel_rfl) ?_ (fun hHeld => ?_)
     ·exact ⟨s1, s2, s3, s4⟩
     (refine takeL (i := 0) (v := ?_) rfl (by kernel_rfl) (by decide +kernel) (by decide +kernel) (fun _ _ _ h => h) (Or.inl ⟨by rfl, ?_⟩) (by assumption) ?_; rotate_left; (focus (intro w9 hS9; (try dsimp only at hS9); go_simp; (try with_reducible rfl); done)))
     (try simp only [Act.put, List.setIfInBounds_toArray, List.set_cons_zero, List.set_cons_succ])
     (refine takeL (i := 1) (v := ?_) rfl (by kernel_rfl) (by decide +kernel) (by decide +kernel) (fun _ _ _ h => h) (Or.inl ⟨by rfl, ?_⟩) (by assumption) ?_; rotate_left; (focus (intro w9 hS9; (try dsimp only at hS9); go_simp; (try with_reducible rfl); done)))
     (try simp only [Act.put, List.setIfInBounds_toArray, List.set_cons_zero, List.set_cons_succ])
     (refine takeL (i := 2) (v := ?_) rfl (by kernel_rfl) (by decide +kernel) (by decide +kernel) (fun _ _ _ h => h) (Or.inl ⟨by rfl, ?_⟩) (by assumption) ?_; rotate_left; (focus (intro w9 hS9; (try dsimp only at hS9); go_simp; (try with_reducible rfl); done)))
     (try simp only [Act.put, List.setIfInBounds_toArray, List.set_cons_zero, List.set_cons_succ])
     (refine takeL (i := 3) (v := ?_) rfl (by kernel_rfl) (by decide +kernel) (by decide +kernel) (fun _ _ _ h => h) (Or.inl ⟨by rfl, ?_⟩) (by assumption) ?_; rotate_left; (focus (intro w9 hS9; (try dsimp only at hS9); go_simp; (try with_reducible rfl); done)))
     (try simp only [Act.put, List.setIfInBounds_toArray, List.set_cons_zero, List.set_cons_succ])
     (refine takeL (i := 4) (v := ?_) rfl (by kernel_rfl) (by decide +kernel) (by decide +kernel) (fun _ _ _ h => h) (Or.inl ⟨by rfl, ?_⟩) (by assumption) ?_; rotate_left; (focus (intro w9 hS9; (try dsimp only at hS9); go_simp; (try with_reducible rfl); done)))
     (try simp only [Act.put, List.setIfInBounds_toArray, List.set_cons_zero, List.set_cons_succ])
     (refine takeL (i := 5) (v := ?_) rfl (by kernel_rfl) (by decide +kernel) (by decide +kernel) (fun _ _ _ h => h) (Or.inl ⟨by rfl, ?_⟩) (by assumption) ?_; rotate_left; (focus (intro w9 hS9; (try dsimp only at hS9); go_simp; (try with_reducible rfl); done)))
     (try simp only [Act.put, List.setIfInBounds_toArray, List.set_cons_zero, List.set_cons_succ])
     (refine takeL (i := 6) (v := ?_) rfl (by kernel_rfl) (by decide +kernel) (by decide +kernel) (fun _ _ _ h => h) (Or.inl ⟨by rfl, ?_⟩) (by assumption) ?_; rotate_left; (focus (intro w9 hS9; (try dsimp only at hS9); go_simp; (try with_reducible rfl); done)))
     (try simp only [Act.put, List.setIfInBounds_toArray, List.set_cons_zero, List.set_cons_succ])
     (refine takeL (i := 7) (v := ?_) rfl (by kernel_rfl) (by decide +kernel) (by decide +kernel) (fun _ _ _ h => h) (Or.inl ⟨by rfl, ?_⟩) (by assumption) ?_; rotate_left; (focus (intro w9 hS9; (try dsimp only at hS9); go_simp; (try with_reducible rfl); done)))
     (try simp only [Act.put, List.setIfInBounds_toArray, List.set_cons_zero, List.set_cons_succ])
     (refine takeL (i := 8) (v := ?_) rfl (by kernel_rfl) (by decide +kernel) (by decide +kernel) (fun _ _ _ h => h) (Or.inl ⟨by rfl, ?_⟩) (by assumption) ?_; rotate_left; (focus (intro w9 hS9; (try dsimp only at hS9); go_simp; (try with_reducible rfl); done)))
     (try simp only [Act.put, List.setIfInBounds_toArray, List.set_cons_zero, List.set_cons_succ])
     have HF := Lib.hid (cfg_finish (HP.out.up (below_drw2 _)) dup f64)
     obtain ⟨U, hU⟩ : ∃ U, U = finP dry dup f64 r1 := ⟨_, rfl⟩
     rw [← hU] at HF HV
     have HU := Lib.hid hU
     clear hU
     cases U with
     | error e1 =>
      refine wpAnyH_ready (rs := [9]) (by decide +kernel) (by simp) ?_
      refine consL rfl (fun K hK => ?_) ?_
      ·go_simp
       go_at_call 59
       (with_reducible refine HF.out.mono ?_)
       rintro e w4 ⟨rfl, hl4⟩
       obtain rfl := HV.out
       exact ⟨rfl, rfl, HN.out.trans ((LoN.below (below_drw2 wr)).trans hl4)⟩
      exact AllReadyH.nil
     | ok p =>
      obtain ⟨eff, q⟩ := p
      cases eff with
      | false =>
       have HDR := Lib.hid (finP_false HU.out.symm).1
       refine wpAnyH_ready (rs := [9]) (by decide +kernel) (by simp) ?_
       refine consL rfl (fun K hK => ?_) ?_
       ·(first | (go_at_call 59; (with_reducible refine HF.out.mono ?_); rintro e w4 ⟨rfl, hp4, hl4⟩; simp only [encB]; have HP4 := Lib.hid hp4; have HN4 := Lib.hid (HN.out.trans ((LoN.below (below_drw2 wr)).trans hl4)); have HB4 := Lib.hid ((hl4.blk lb (lt_of_heap HBX.out) (by have a := HLB.out; have b := HPW.out; simp; omega)).trans (show wr.drew.heap[lb]? = _ from HBX.out)); have HS4 := Lib.hid (H0.out.read HP4.out HN4.out).st; have u1 : w4.cell? ⟨pb, 15, none⟩ = some (.map (some xb)) := HP4.out.kc 15 (by decide); obtain ⟨u2, u3, uf⟩ := two_cellsG HB4.out; have u4 := (pfx_look HS4.out.xm x y HXI.out HYI.out).trans (by rw [← HD.out]); clear hp4 hl4) | (go_simp; first | done | (first | (go_at_call 59; (with_reducible refine HF.out.mono ?_); rintro e w4 ⟨rfl, hp4, hl4⟩; simp only [encB]; have HP4 := Lib.hid hp4; have HN4 := Lib.hid (HN.out.trans ((LoN.below (below_drw2 wr)).trans hl4)); have HB4 := Lib.hid ((hl4.blk lb (lt_of_heap HBX.out) (by have a := HLB.out; have b := HPW.out; simp; omega)).trans (show wr.drew.heap[lb]? = _ from HBX.out)); have HS4 := Lib.hid (H0.out.read HP4.out HN4.out).st; have u1 : w4.cell? ⟨pb, 15, none⟩ = some (.map (some xb)) := HP4.out.kc 15 (by decide); obtain ⟨u2, u3, uf⟩ := two_cellsG HB4.out; have u4 := (pfx_look HS4.out.xm x y HXI.out HYI.out).trans (by rw [← HD.out]); clear hp4 hl4))) | go_simp)
        (first | (with_reducible refine hK.out _ _ ?_ ?_) | (go_wp2_with fail; refine hK.out _ _ ?_ ?_))
        (focus (exact ⟨u1, u2, u3, u4⟩))
        clear hK K hHeld
        intro hHeld
        (try simp only [Act.put, List.setIfInBounds_toArray, List.set_cons_zero, List.set_cons_succ])
        refine wpAnyH_done (by decide +kernel) ?_ _
        go_wp2_with fail
        go_end0
        obtain rfl := HV.out
        exact ⟨rfl, HN4.out.toM H0.out.st.sz (by simp), _, _, HS4.out, (fun _ => ⟨rfl, rfl, HN4.out⟩), rfl⟩
       exact AllReadyH.nil
      | true =>
       have HDR := Lib.hid (finP_true HU.out.symm).1
       refine wpAnyH_ready (rs := [9]) (by decide +kernel) (by simp) ?_
       refine consL rfl (fun K hK => ?_) ?_
       ·(first | (go_at_call 59; (with_reducible refine HF.out.mono ?_); rintro e w4 ⟨rfl, hp4, hl4⟩; simp only [encB]; have HP4 := Lib.hid hp4; have HN4 := Lib.hid (HN.out.trans ((LoN.below (below_drw2 wr)).trans hl4)); have HB4 := Lib.hid ((hl4.blk lb (lt_of_heap HBX.out) (by have a := HLB.out; have b := HPW.out; simp; omega)).trans (show wr.drew.heap[lb]? = _ from HBX.out)); have HS4 := Lib.hid (H0.out.read HP4.out HN4.out).st; have u1 : w4.cell? ⟨pb, 15, none⟩ = some (.map (some xb)) := HP4.out.kc 15 (by decide); obtain ⟨u2, u3, uf⟩ := two_cellsG HB4.out; have u4 := (pfx_look HS4.out.xm x y HXI.out HYI.out).trans (by rw [← HD.out]); clear hp4 hl4) | (go_simp; first | done | (first | (go_at_call 59; (with_reducible refine HF.out.mono ?_); rintro e w4 ⟨rfl, hp4, hl4⟩; simp only [encB]; have HP4 := Lib.hid hp4; have HN4 := Lib.hid (HN.out.trans ((LoN.below (below_drw2 wr)).trans hl4)); have HB4 := Lib.hid ((hl4.blk lb (lt_of_heap HBX.out) (by have a := HLB.out; have b := HPW.out; simp; omega)).trans (show wr.drew.heap[lb]? = _ from HBX.out)); have HS4 := Lib.hid (H0.out.read HP4.out HN4.out).st; have u1 : w4.cell? ⟨pb, 15, none⟩ = some (.map (some xb)) := HP4.out.kc 15 (by decide); obtain ⟨u2, u3, uf⟩ := two_cellsG HB4.out; have u4 := (pfx_look HS4.out.xm x y HXI.out HYI.out).trans (by rw [← HD.out]); clear hp4 hl4))) | go_simp)
        (first | (with_reducible refine hK.out _ _ ?_ ?_) | (go_wp2_with fail; refine hK.out _ _ ?_ ?_))
        (focus (exact ⟨u1, u2, u3, u4⟩))
        clear hK K hHeld
        intro hHeld
        (try simp only [Act.put, List.setIfInBounds_toArray, List.set_cons_zero, List.set_cons_succ])
        refine wpAnyH_done (by decide +kernel) ?_ _
        clear hHeld u4 s1 s2 s3 s4 sf
        go_wp2_with fail
        have HNY : Hid ((x, y) ∉ c.xk) := Lib.hid (by have h1 := (finP_true HU.out.symm).2.1; have h2 := HD.out; rw [h1] at h2; exact of_decide_eq_false h2.symm)
        obtain ⟨w5, hup, hs5, hm5, hg5⟩ := HS4.out.drew.keyX x y HXI.out HYI.out HNY.out
        have HS5 := Lib.hid hs5
        have HM5 := Lib.hid hm5
        have HG5 := Lib.hid hg5
        clear hs5 hm5 hg5
        refine wp_region_held_drew (S := (fun _ => True)) (by kernel_rfl) ?_ (fun hHeld => ?_)
        ·exact trivial
        (refine takeL (i := 0) (v := ?_) rfl (by kernel_rfl) (by decide +kernel) (by decide +kernel) (fun _ _ _ h => h) (Or.inl ⟨by rfl, ?_⟩) (by assumption) ?_; rotate_left; (focus (intro w9 hS9; (try dsimp only at hS9); go_simp; (try with_reducible rfl); done)))
        (try simp only [Act.put, List.setIfInBounds_toArray, List.set_cons_zero, List.set_cons_succ])
        (refine takeL (i := 1) (v := ?_) rfl (by kernel_rfl) (by decide +kernel) (by decide +kernel) (fun _ _ _ h => h) (Or.inl ⟨by rfl, ?_⟩) (by assumption) ?_; rotate_left; (focus (intro w9 hS9; (try dsimp only at hS9); go_simp; (try with_reducible rfl); done)))
        (try simp only [Act.put, List.setIfInBounds_toArray, List.set_cons_zero, List.set_cons_succ])
        (refine takeL (i := 2) (v := ?_) rfl (by kernel_rfl) (by decide +kernel) (by decide +kernel) (fun _ _ _ h => h) (Or.inl ⟨by rfl, ?_⟩) (by assumption) ?_; rotate_left; (focus (intro w9 hS9; (try dsimp only at hS9); go_simp; (try with_reducible rfl); done)))
        (try simp only [Act.put, List.setIfInBounds_toArray, List.set_cons_zero, List.set_cons_succ])
        refine wpAnyH_ready (rs := [3, 4]) (by decide +kernel) (by simp) ?_
        refine consL rfl (fun K hK => ?_) ?_
        ·(first | fail | (go_simp; first | done | (first | fail)) | go_simp)
         (first | (with_reducible refine hK.out _ _ ?_ ?_) | (go_wp2_with fail; refine hK.out _ _ ?_ ?_))
         (focus (exact trivial))
         clear hK K hHeld
         intro hHeld
         (try simp only [Act.put, List.setIfInBounds_toArray, List.set_cons_zero, List.set_cons_succ])
         refine wpAnyH_ready (rs := [4]) (by decide +kernel) (by simp) ?_
         refine consL rfl (fun K hK => ?_) ?_
         ·(first | fail | (go_simp; first | done | (first | fail)) | go_simp)
          (first | (with_reducible refine hK.out _ _ ?_ ?_) | (go_wp2_with fail; refine hK.out _ _ ?_ ?_))
          (focus (exact trivial))
          clear hK K hHeld
          intro hHeld
          (try simp only [Act.put, List.setIfInBounds_toArray, List.set_cons_zero, List.set_cons_succ])
          refine wpAnyH_ready (rs := [5]) (by decide +kernel) (by simp) ?_
          refine consL rfl (fun K hK => ?_) ?_
          ·(first | fail | (go_simp; first | done | (first | fail)) | go_simp)
           (first | (with_reducible refine hK.out _ _ ?_ ?_) | (go_wp2_with fail; refine hK.out _ _ ?_ ?_))
           (focus (exact trivial))
           clear hK K hHeld
           intro hHeld
           (try simp only [Act.put, List.setIfInBounds_toArray, List.set_cons_zero, List.set_cons_succ])
           refine wpAnyH_done (by decide +kernel) ?_ _
           clear hHeld u1 u2 u3 uf hup
           have HB5 := Lib.hid ((HG5.out.block lb (lt_of_heap (w := w4.drew) HB4.out) (fun e => by have a := HLB.out; have b := H0.out.st.bl.1.2.2.1; have c := H0.out.st.sz; injection e with e; omega)).trans HB4.out)
           go_wp2_with fail
           have H8 := Lib.hid HS5.out.drew
           have HO8 : Hid (w5.drew.ownsRow B 72 3 (.slice r.aP c.pfx.length r.cP) c.pfx.length (c.pfx.flatMap pfV)) := Lib.hid H8.out.ownP
           have v4 : w5.cell? ⟨pb, 5, none⟩ = some (.slice r.aP c.pfx.length r.cP) := HS5.out.cell 5 (by decide)
           obtain ⟨v0, v1, vf⟩ := two_cellsG HB5.out
           refine wp_region_held_drew (S := (fun _ => True)) (by kernel_rfl) ?_ (fun hHeld => ?_)
           ·exact trivial
           (refine takeL (i := 0) (v := ?_) rfl (by kernel_rfl) (by decide +kernel) (by decide +kernel) (fun _ _ _ h => h) (Or.inl ⟨by rfl, ?_⟩) (by assumption) ?_; rotate_left; (focus (intro w9 hS9; (try dsimp only at hS9); go_simp; (try with_reducible rfl); done)))
           (try simp only [Act.put, List.setIfInBounds_toArray, List.set_cons_zero, List.set_cons_succ])
           (refine takeL (i := 1) (v := ?_) rfl (by kernel_rfl) (by decide +kernel) (by decide +kernel) (fun _ _ _ h => h) (Or.inl ⟨by rfl, ?_⟩) (by assumption) ?_; rotate_left; (focus (intro w9 hS9; (try dsimp only at hS9); go_simp; (try with_reducible rfl); done)))
           (try simp only [Act.put, List.setIfInBounds_toArray, List.set_cons_zero, List.set_cons_succ])
           (refine takeL (i := 2) (v := ?_) rfl (by kernel_rfl) (by decide +kernel) (by decide +kernel) (fun _ _ _ h => h) (Or.inl ⟨by rfl, ?_⟩) (by assumption) ?_; rotate_left; (focus (intro w9 hS9; (try dsimp only at hS9); go_simp; (try with_reducible rfl); done)))
           (try simp only [Act.put, List.setIfInBounds_toArray, List.set_cons_zero, List.set_cons_succ])
           (refine takeL (i := 3) (v := ?_) rfl (by kernel_rfl) (by decide +kernel) (by decide +kernel) (fun _ _ _ h => h) (Or.inl ⟨by rfl, ?_⟩) (by assumption) ?_; rotate_left; (focus (intro w9 hS9; (try dsimp only at hS9); go_simp; (try with_reducible rfl); done)))
           (try simp only [Act.put, List.setIfInBounds_toArray, List.set_cons_zero, List.set_cons_succ])
           (refine takeL (i := 4) (v := ?_) rfl (by kernel_rfl) (by decide +kernel) (by decide +kernel) (fun _ _ _ h => h) (Or.inl ⟨by rfl, ?_⟩) (by assumption) ?_; rotate_left; (focus (intro w9 hS9; (try dsimp only at hS9); go_simp; (try with_reducible rfl); done)))
           (try simp only [Act.put, List.setIfInBounds_toArray, List.set_cons_zero, List.set_cons_succ])
           (refine takeL (i := 7) (v := ?_) rfl (by kernel_rfl) (by decide +kernel) (by decide +kernel) (fun _ _ _ h => h) (Or.inl ⟨by rfl, ?_⟩) (by assumption) ?_; rotate_left; (focus (intro w9 hS9; (try dsimp only at hS9); go_simp; (try with_reducible rfl); done)))
           (try simp only [Act.put, List.setIfInBounds_toArray, List.set_cons_zero, List.set_cons_succ])
           refine wpAnyH_ready (rs := [5, 6]) (by decide +kernel) (by simp) ?_
           refine consL rfl (fun K hK => ?_) ?_
           ·(first | fail | (go_simp; first | done | (first | fail)) | go_simp)
            (first | (with_reducible refine hK.out _ _ ?_ ?_) | (go_wp2_with fail; refine hK.out _ _ ?_ ?_))
            (focus (exact trivial))
            clear hK K hHeld
            intro hHeld
            (try simp only [Act.put, List.setIfInBounds_toArray, List.set_cons_zero, List.set_cons_succ])
            refine wpAnyH_ready (rs := [6]) (by decide +kernel) (by simp) ?_
            refine consL rfl (fun K hK => ?_) ?_
            ·(first | fail | (go_simp; first | done | (first | fail)) | go_simp)
             (first | (with_reducible refine hK.out _ _ ?_ ?_) | (go_wp2_with fail; refine hK.out _ _ ?_ ?_))
             (focus (exact trivial))
             clear hK K hHeld
             intro hHeld
             (try simp only [Act.put, List.setIfInBounds_toArray, List.set_cons_zero, List.set_cons_succ])
             (refine takeL (i := 8) (v := ?_) rfl (by kernel_rfl) (by decide +kernel) (by decide +kernel) (fun _ _ _ h => h) (Or.inl ⟨by rfl, ?_⟩) (by assumption) ?_; rotate_left; (focus (intro w9 hS9; (try dsimp only at hS9); go_simp; (try with_reducible rfl); done)))
             (try simp only [Act.put, List.setIfInBounds_toArray, List.set_cons_zero, List.set_cons_succ])
             refine wpAnyH_ready (rs := [9]) (by decide +kernel) (by simp) ?_
             refine consL rfl (fun K hK => ?_) ?_
             ·(first | fail | (go_simp; first | done | (first | fail)) | go_simp)
              (first | (with_reducible refine hK.out _ _ ?_ ?_) | (go_wp2_with fail; refine hK.out _ _ ?_ ?_))
              (focus (exact trivial))
              clear hK K hHeld
              intro hHeld
              (try simp only [Act.put, List.setIfInBounds_toArray, List.set_cons_zero, List.set_cons_succ])
              refine wpAnyH_ready (rs := [10]) (by decide +kernel) (by simp) ?_
              refine consL rfl (fun K hK => ?_) ?_
              ·(first | (refine step_append_lies _ rfl _ _ 28 rfl B 72 k0 (.agg #[.int .u32 0, .int .i64 0, .int .i64 0]) 3 24 Tryz.underlying28 hi0 hi1 hi2 hi3 rfl (by decide) _ _ _ rfl (HO8.out.alloc _) ⟨_, 0, none⟩ 1 1 (pfV (x, y, n)) rfl rfl (cells_new _ (pfV (x, y, n)) _) (by intro u hu; simp only [pfV, List.mem_cons, List.not_mem_nil, or_false] at hu; rcases hu with rfl | rfl | rfl <;> rfl) (by decide) (by have := HLM.out; unfold maxLen; omega) (by have := HLM.out; omega) (Nat.le_trans H8.out.sz (by simp)) _ rfl ?_; intro gg cap W9 ap1 ap2 ap3 ap4; obtain ⟨p1, p2, p3, p4⟩ := H8.out.pushP (x := (x, y, n)) ap1 ap2 ap3 HLM.out; have P1 := Lib.hid p1; have P2 := Lib.hid p2; clear p1 p2 ap1 ap2 ap3 ap4) | (go_simp; first | done | (first | (refine step_append_lies _ rfl _ _ 28 rfl B 72 k0 (.agg #[.int .u32 0, .int .i64 0, .int .i64 0]) 3 24 Tryz.underlying28 hi0 hi1 hi2 hi3 rfl (by decide) _ _ _ rfl (HO8.out.alloc _) ⟨_, 0, none⟩ 1 1 (pfV (x, y, n)) rfl rfl (cells_new _ (pfV (x, y, n)) _) (by intro u hu; simp only [pfV, List.mem_cons, List.not_mem_nil, or_false] at hu; rcases hu with rfl | rfl | rfl <;> rfl) (by decide) (by have := HLM.out; unfold maxLen; omega) (by have := HLM.out; omega) (Nat.le_trans H8.out.sz (by simp)) _ rfl ?_; intro gg cap W9 ap1 ap2 ap3 ap4; obtain ⟨p1, p2, p3, p4⟩ := H8.out.pushP (x := (x, y, n)) ap1 ap2 ap3 HLM.out; have P1 := Lib.hid p1; have P2 := Lib.hid p2; clear p1 p2 ap1 ap2 ap3 ap4))) | go_simp)
               (first | (with_reducible refine hK.out _ _ ?_ ?_) | (go_wp2_with fail; refine hK.out _ _ ?_ ?_))
               (focus (exact trivial))
               clear hK K hHeld
               intro hHeld
               (try simp only [Act.put, List.setIfInBounds_toArray, List.set_cons_zero, List.set_cons_succ])
               (refine takeL (i := 11) (v := ?_) rfl (by kernel_rfl) (by decide +kernel) (by decide +kernel) (fun _ _ _ h => h) (Or.inl ⟨by rfl, ?_⟩) (by assumption) ?_; rotate_left; (focus (intro w9 hS9; (try dsimp only at hS9); go_simp; (try with_reducible rfl); done)))
               (try simp only [Act.put, List.setIfInBounds_toArray, List.set_cons_zero, List.set_cons_succ])
               (refine takeL (i := 12) (v := ?_) rfl (by kernel_rfl) (by decide +kernel) (by decide +kernel) (fun _ _ _ h => h) (Or.inl ⟨by rfl, ?_⟩) (by assumption) ?_; rotate_left; (focus (intro w9 hS9; (try dsimp only at hS9); go_simp; (try with_reducible rfl); done)))
               (try simp only [Act.put, List.setIfInBounds_toArray, List.set_cons_zero, List.set_cons_succ])
               (refine takeL (i := 13) (v := ?_) rfl (by kernel_rfl) (by decide +kernel) (by decide +kernel) (fun _ _ _ h => h) (Or.inl ⟨by rfl, ?_⟩) (by assumption) ?_; rotate_left; (focus (intro w9 hS9; (try dsimp only at hS9); go_simp; (try with_reducible rfl); done)))
               (try simp only [Act.put, List.setIfInBounds_toArray, List.set_cons_zero, List.set_cons_succ])
               refine wpAnyH_ready (rs := [14]) (by decide +kernel) (by simp) ?_
               refine consL rfl (fun K hK => ?_) ?_
               ·(first | fail | (go_simp; first | done | (first | fail)) | go_simp)
                (first | (with_reducible refine hK.out _ _ ?_ ?_) | (go_wp2_with fail; refine hK.out _ _ ?_ ?_))
                (focus (exact trivial))
                clear hK K hHeld
                intro hHeld
                (try simp only [Act.put, List.setIfInBounds_toArray, List.set_cons_zero, List.set_cons_succ])
                refine wpAnyH_done (by decide +kernel) ?_ _
                go_wp2_with fail
                go_end0
                obtain rfl := HV.out
                exact ⟨rfl, ((HN4.out.toM (Y := [pb, sb, xb, yb]) H0.out.st.sz (by simp)).drew.trans HM5.out).drew.trans P2.out, _, _, P1.out, (fun h => by rw [HDR.out] at h; cases h), rfl⟩
               exact AllReadyH.nil
              exact AllReadyH.nil
             exact AllReadyH.nil
            exact AllReadyH.nil
           refine consL rfl (fun K hK => ?_) ?_
           ·(first | fail | (go_simp; first | done | (first | fail)) | go_simp)
            (first | (with_reducible refine hK.out _ _ ?_ ?_) | (go_wp2_with fail; refine hK.out _ _ ?_ ?_))
            (focus (exact trivial))
            clear hK K hHeld
            intro hHeld
            (try simp only [Act.put, List.setIfInBounds_toArray, List.set_cons_zero, List.set_cons_succ])
            (refine takeL (i := 8) (v := ?_) rfl (by kernel_rfl) (by decide +kernel) (by decide +kernel) (fun _ _ _ h => h) (Or.inl ⟨by rfl, ?_⟩) (by assumption) ?_; rotate_left; (focus (intro w9 hS9; (try dsimp only at hS9); go_simp; (try with_reducible rfl); done)))
            (try simp only [Act.put, List.setIfInBounds_toArray, List.set_cons_zero, List.set_cons_succ])
            refine wpAnyH_ready (rs := [5, 9]) (by decide +kernel) (by simp) ?_
            refine consL rfl (fun K hK => ?_) ?_
            ·(first | fail | (go_simp; first | done | (first | fail)) | go_simp)
             (first | (with_reducible refine hK.out _ _ ?_ ?_) | (go_wp2_with fail; refine hK.out _ _ ?_ ?_))
             (focus (exact trivial))
             clear hK K hHeld
             intro hHeld
             (try simp only [Act.put, List.setIfInBounds_toArray, List.set_cons_zero, List.set_cons_succ])
             refine wpAnyH_ready (rs := [9]) (by decide +kernel) (by simp) ?_
             refine consL rfl (fun K hK => ?_) ?_
             ·(first | fail | (go_simp; first | done | (first | fail)) | go_simp)
              (first | (with_reducible refine hK.out _ _ ?_ ?_) | (go_wp2_with fail; refine hK.out _ _ ?_ ?_))
              (focus (exact trivial))
              clear hK K hHeld
              intro hHeld
              (try simp only [Act.put, List.setIfInBounds_toArray, List.set_cons_zero, List.set_cons_succ])
              refine wpAnyH_ready (rs := [10]) (by decide +kernel) (by simp) ?_
              refine consL rfl (fun K hK => ?_) ?_
              ·(first | (refine step_append_lies _ rfl _ _ 28 rfl B 72 k0 (.agg #[.int .u32 0, .int .i64 0, .int .i64 0]) 3 24 Tryz.underlying28 hi0 hi1 hi2 hi3 rfl (by decide) _ _ _ rfl (HO8.out.alloc _) ⟨_, 0, none⟩ 1 1 (pfV (x, y, n)) rfl rfl (cells_new _ (pfV (x, y, n)) _) (by intro u hu; simp only [pfV, List.mem_cons, List.not_mem_nil, or_false] at hu; rcases hu with rfl | rfl | rfl <;> rfl) (by decide) (by have := HLM.out; unfold maxLen; omega) (by have := HLM.out; omega) (Nat.le_trans H8.out.sz (by simp)) _ rfl ?_; intro gg cap W9 ap1 ap2 ap3 ap4; obtain ⟨p1, p2, p3, p4⟩ := H8.out.pushP (x := (x, y, n)) ap1 ap2 ap3 HLM.out; have P1 := Lib.hid p1; have P2 := Lib.hid p2; clear p1 p2 ap1 ap2 ap3 ap4) | (go_simp; first | done | (first | (refine step_append_lies _ rfl _ _ 28 rfl B 72 k0 (.agg #[.int .u32 0, .int .i64 0, .int .i64 0]) 3 24 Tryz.underlying28 hi0 hi1 hi2 hi3 rfl (by decide) _ _ _ rfl (HO8.out.alloc _) ⟨_, 0, none⟩ 1 1 (pfV (x, y, n)) rfl rfl (cells_new _ (pfV (x, y, n)) _) (by intro u hu; simp only [pfV, List.mem_cons, List.not_mem_nil, or_false] at hu; rcases hu with rfl | rfl | rfl <;> rfl) (by decide) (by have := HLM.out; unfold maxLen; omega) (by have := HLM.out; omega) (Nat.le_trans H8.out.sz (by simp)) _ rfl ?_; intro gg cap W9 ap1 ap2 ap3 ap4; obtain ⟨p1, p2, p3, p4⟩ := H8.out.pushP (x := (x, y, n)) ap1 ap2 ap3 HLM.out; have P1 := Lib.hid p1; have P2 := Lib.hid p2; clear p1 p2 ap1 ap2 ap3 ap4))) | go_simp)
               (first | (with_reducible refine hK.out _ _ ?_ ?_) | (go_wp2_with fail; refine hK.out _ _ ?_ ?_))
               (focus (exact trivial))
               clear hK K hHeld
               intro hHeld
               (try simp only [Act.put, List.setIfInBounds_toArray, List.set_cons_zero, List.set_cons_succ])
               (refine takeL (i := 11) (v := ?_) rfl (by kernel_rfl) (by decide +kernel) (by decide +kernel) (fun _ _ _ h => h) (Or.inl ⟨by rfl, ?_⟩) (by assumption) ?_; rotate_left; (focus (intro w9 hS9; (try dsimp only at hS9); go_simp; (try with_reducible rfl); done)))
               (try simp only [Act.put, List.setIfInBounds_toArray, List.set_cons_zero, List.set_cons_succ])
               (refine takeL (i := 12) (v := ?_) rfl (by kernel_rfl) (by decide +kernel) (by decide +kernel) (fun _ _ _ h => h) (Or.inl ⟨by rfl, ?_⟩) (by assumption) ?_; rotate_left; (focus (intro w9 hS9; (try dsimp only at hS9); go_simp; (try with_reducible rfl); done)))
               (try simp only [Act.put, List.setIfInBounds_toArray, List.set_cons_zero, List.set_cons_succ])
               (refine takeL (i := 13) (v := ?_) rfl (by kernel_rfl) (by decide +kernel) (by decide +kernel) (fun _ _ _ h => h) (Or.inl ⟨by rfl, ?_⟩) (by assumption) ?_; rotate_left; (focus (intro w9 hS9; (try dsimp only at hS9); go_simp; (try with_reducible rfl); done)))
               (try simp only [Act.put, List.setIfInBounds_toArray, List.set_cons_zero, List.set_cons_succ])
               refine wpAnyH_ready (rs := [14]) (by decide +kernel) (by simp) ?_
               refine consL rfl (fun K hK => ?_) ?_
               ·(first | fail | (go_simp; first | done | (first | fail)) | go_simp)
                (first | (with_reducible refine hK.out _ _ ?_ ?_) | (go_wp2_with fail; refine hK.out _ _ ?_ ?_))
                (focus (exact trivial))
                clear hK K hHeld
                intro hHeld
                (try simp only [Act.put, List.setIfInBounds_toArray, List.set_cons_zero, List.set_cons_succ])
                refine wpAnyH_done (by decide +kernel) ?_ _
                go_wp2_with fail
                go_end0
                obtain rfl := HV.out
                exact ⟨rfl, ((HN4.out.toM (Y := [pb, sb, xb, yb]) H0.out.st.sz (by simp)).drew.trans HM5.out).drew.trans P2.out, _, _, P1.out, (fun h => by rw [HDR.out] at h; cases h), rfl⟩
               exact AllReadyH.nil
              exact AllReadyH.nil
             exact AllReadyH.nil
            refine consL rfl (fun K hK => ?_) ?_
            ·(first | fail | (go_simp; first | done | (first | fail)) | go_simp)
             (first | (with_reducible refine hK.out _ _ ?_ ?_) | (go_wp2_with fail; refine hK.out _ _ ?_ ?_))
             (focus (exact trivial))
             clear hK K hHeld
             intro hHeld
             (try simp only [Act.put, List.setIfInBounds_toArray, List.set_cons_zero, List.set_cons_succ])
             have e9 := cell_up (below_box w5 (.cells (pfV (x, y, n)).toArray 72)) v4
             simp only [pfV] at e9
             refine wpAnyH_ready (rs := [5]) (by decide +kernel) (by simp) ?_
             refine consL rfl (fun K hK => ?_) ?_
             ·(first | fail | (go_simp; first | done | (first | fail)) | go_simp)
              (first | (with_reducible refine hK.out _ _ ?_ ?_) | (go_wp2_with fail; refine hK.out _ _ ?_ ?_))
              (focus (exact trivial))
              clear hK K hHeld
              intro hHeld
              (try simp only [Act.put, List.setIfInBounds_toArray, List.set_cons_zero, List.set_cons_succ])
              refine wpAnyH_ready (rs := [10]) (by decide +kernel) (by simp) ?_
              refine consL rfl (fun K hK => ?_) ?_
              ·(first | (refine step_append_lies _ rfl _ _ 28 rfl B 72 k0 (.agg #[.int .u32 0, .int .i64 0, .int .i64 0]) 3 24 Tryz.underlying28 hi0 hi1 hi2 hi3 rfl (by decide) _ _ _ rfl (HO8.out.alloc _) ⟨_, 0, none⟩ 1 1 (pfV (x, y, n)) rfl rfl (cells_new _ (pfV (x, y, n)) _) (by intro u hu; simp only [pfV, List.mem_cons, List.not_mem_nil, or_false] at hu; rcases hu with rfl | rfl | rfl <;> rfl) (by decide) (by have := HLM.out; unfold maxLen; omega) (by have := HLM.out; omega) (Nat.le_trans H8.out.sz (by simp)) _ rfl ?_; intro gg cap W9 ap1 ap2 ap3 ap4; obtain ⟨p1, p2, p3, p4⟩ := H8.out.pushP (x := (x, y, n)) ap1 ap2 ap3 HLM.out; have P1 := Lib.hid p1; have P2 := Lib.hid p2; clear p1 p2 ap1 ap2 ap3 ap4) | (go_simp; first | done | (first | (refine step_append_lies _ rfl _ _ 28 rfl B 72 k0 (.agg #[.int .u32 0, .int .i64 0, .int .i64 0]) 3 24 Tryz.underlying28 hi0 hi1 hi2 hi3 rfl (by decide) _ _ _ rfl (HO8.out.alloc _) ⟨_, 0, none⟩ 1 1 (pfV (x, y, n)) rfl rfl (cells_new _ (pfV (x, y, n)) _) (by intro u hu; simp only [pfV, List.mem_cons, List.not_mem_nil, or_false] at hu; rcases hu with rfl | rfl | rfl <;> rfl) (by decide) (by have := HLM.out; unfold maxLen; omega) (by have := HLM.out; omega) (Nat.le_trans H8.out.sz (by simp)) _ rfl ?_; intro gg cap W9 ap1 ap2 ap3 ap4; obtain ⟨p1, p2, p3, p4⟩ := H8.out.pushP (x := (x, y, n)) ap1 ap2 ap3 HLM.out; have P1 := Lib.hid p1; have P2 := Lib.hid p2; clear p1 p2 ap1 ap2 ap3 ap4))) | go_simp)
               (first | (with_reducible refine hK.out _ _ ?_ ?_) | (go_wp2_with fail; refine hK.out _ _ ?_ ?_))
               (focus (exact trivial))
               clear hK K hHeld
               intro hHeld
               (try simp only [Act.put, List.setIfInBounds_toArray, List.set_cons_zero, List.set_cons_succ])
               (refine takeL (i := 11) (v := ?_) rfl (by kernel_rfl) (by decide +kernel) (by decide +kernel) (fun _ _ _ h => h) (Or.inl ⟨by rfl, ?_⟩) (by assumption) ?_; rotate_left; (focus (intro w9 hS9; (try dsimp only at hS9); go_simp; (try with_reducible rfl); done)))
               (try simp only [Act.put, List.setIfInBounds_toArray, List.set_cons_zero, List.set_cons_succ])
               (refine takeL (i := 12) (v := ?_) rfl (by kernel_rfl) (by decide +kernel) (by decide +kernel) (fun _ _ _ h => h) (Or.inl ⟨by rfl, ?_⟩) (by assumption) ?_; rotate_left; (focus (intro w9 hS9; (try dsimp only at hS9); go_simp; (try with_reducible rfl); done)))
               (try simp only [Act.put, List.setIfInBounds_toArray, List.set_cons_zero, List.set_cons_succ])
               (refine takeL (i := 13) (v := ?_) rfl (by kernel_rfl) (by decide +kernel) (by decide +kernel) (fun _ _ _ h => h) (Or.inl ⟨by rfl, ?_⟩) (by assumption) ?_; rotate_left; (focus (intro w9 hS9; (try dsimp only at hS9); go_simp; (try with_reducible rfl); done)))
               (try simp only [Act.put, List.setIfInBounds_toArray, List.set_cons_zero, List.set_cons_succ])
               refine wpAnyH_ready (rs := [14]) (by decide +kernel) (by simp) ?_
               refine consL rfl (fun K hK => ?_) ?_
               ·(first | fail | (go_simp; first | done | (first | fail)) | go_simp)
                (first | (with_reducible refine hK.out _ _ ?_ ?_) | (go_wp2_with fail; refine hK.out _ _ ?_ ?_))
                (focus (exact trivial))
                clear hK K hHeld
                intro hHeld
                (try simp only [Act.put, List.setIfInBounds_toArray, List.set_cons_zero, List.set_cons_succ])
                refine wpAnyH_done (by decide +kernel) ?_ _
                go_wp2_with fail
                go_end0
                obtain rfl := HV.out
                exact ⟨rfl, ((HN4.out.toM (Y := [pb, sb, xb, yb]) H0.out.st.sz (by simp)).drew.trans HM5.out).drew.trans P2.out, _, _, P1.out, (fun h => by rw [HDR.out] at h; cases h), rfl⟩
               exact AllReadyH.nil
              exact AllReadyH.nil
             exact AllReadyH.nil
            exact AllReadyH.nil
           exact AllReadyH.nil
          exact AllReadyH.nil
         exact AllReadyH.nil
        refine consL rfl (fun K hK => ?_) ?_
        ·(first | fail | (go_simp; first | done | (first | fail)) | go_simp)
         (first | (with_reducible refine hK.out _ _ ?_ ?_) | (go_wp2_with fail; refine hK.out _ _ ?_ ?_))
         (focus (exact trivial))
         clear hK K hHeld
         intro hHeld
         (try simp only [Act.put, List.setIfInBounds_toArray, List.set_cons_zero, List.set_cons_succ])
         refine wpAnyH_ready (rs := [3]) (by decide +kernel) (by simp) ?_
         refine consL rfl (fun K hK => ?_) ?_
         ·(first | fail | (go_simp; first | done | (first | fail)) | go_simp)
          (first | (with_reducible refine hK.out _ _ ?_ ?_) | (go_wp2_with fail; refine hK.out _ _ ?_ ?_))
          (focus (exact trivial))
          clear hK K hHeld
          intro hHeld
          (try simp only [Act.put, List.setIfInBounds_toArray, List.set_cons_zero, List.set_cons_succ])
          refine wpAnyH_ready (rs := [5]) (by decide +kernel) (by simp) ?_
          refine consL rfl (fun K hK => ?_) ?_
          ·(first | fail | (go_simp; first | done | (first | fail)) | go_simp)
           (first | (with_reducible refine hK.out _ _ ?_ ?_) | (go_wp2_with fail; refine hK.out _ _ ?_ ?_))
           (focus (exact trivial))
           clear hK K hHeld
           intro hHeld
           (try simp only [Act.put, List.setIfInBounds_toArray, List.set_cons_zero, List.set_cons_succ])
           refine wpAnyH_done (by decide +kernel) ?_ _
           clear hHeld u1 u2 u3 uf hup
           have HB5 := Lib.hid ((HG5.out.block lb (lt_of_heap (w := w4.drew) HB4.out) (fun e => by have a := HLB.out; have b := H0.out.st.bl.1.2.2.1; have c := H0.out.st.sz; injection e with e; omega)).trans HB4.out)
           go_wp2_with fail
           have H8 := Lib.hid HS5.out.drew
           have HO8 : Hid (w5.drew.ownsRow B 72 3 (.slice r.aP c.pfx.length r.cP) c.pfx.length (c.pfx.flatMap pfV)) := Lib.hid H8.out.ownP
           have v4 : w5.cell? ⟨pb, 5, none⟩ = some (.slice r.aP c.pfx.length r.cP) := HS5.out.cell 5 (by decide)
           obtain ⟨v0, v1, vf⟩ := two_cellsG HB5.out
           refine wp_region_held_drew (S := (fun _ => True)) (by kernel_rfl) ?_ (fun hHeld => ?_)
           ·exact trivial
           (refine takeL (i := 0) (v := ?_) rfl (by kernel_rfl) (by decide +kernel) (by decide +kernel) (fun _ _ _ h => h) (Or.inl ⟨by rfl, ?_⟩) (by assumption) ?_; rotate_left; (focus (intro w9 hS9; (try dsimp only at hS9); go_simp; (try with_reducible rfl); done)))
           (try simp only [Act.put, List.setIfInBounds_toArray, List.set_cons_zero, List.set_cons_succ])
           (refine takeL (i := 1) (v := ?_) rfl (by kernel_rfl) (by decide +kernel) (by decide +kernel) (fun _ _ _ h => h) (Or.inl ⟨by rfl, ?_⟩) (by assumption) ?_; rotate_left; (focus (intro w9 hS9; (try dsimp only at hS9); go_simp; (try with_reducible rfl); done)))
           (try simp only [Act.put, List.setIfInBounds_toArray, List.set_cons_zero, List.set_cons_succ])
           (refine takeL (i := 2) (v := ?_) rfl (by kernel_rfl) (by decide +kernel) (by decide +kernel) (fun _ _ _ h => h) (Or.inl ⟨by rfl, ?_⟩) (by assumption) ?_; rotate_left; (focus (intro w9 hS9; (try dsimp only at hS9); go_simp; (try with_reducible rfl); done)))
           (try simp only [Act.put, List.setIfInBounds_toArray, List.set_cons_zero, List.set_cons_succ])
           (refine takeL (i := 3) (v := ?_) rfl (by kernel_rfl) (by decide +kernel) (by decide +kernel) (fun _ _ _ h => h) (Or.inl ⟨by rfl, ?_⟩) (by assumption) ?_; rotate_left; (focus (intro w9 hS9; (try dsimp only at hS9); go_simp; (try with_reducible rfl); done)))
           (try simp only [Act.put, List.setIfInBounds_toArray, List.set_cons_zero, List.set_cons_succ])
           (refine takeL (i := 4) (v := ?_) rfl (by kernel_rfl) (by decide +kernel) (by decide +kernel) (fun _ _ _ h => h) (Or.inl ⟨by rfl, ?_⟩) (by assumption) ?_; rotate_left; (focus (intro w9 hS9; (try dsimp only at hS9); go_simp; (try with_reducible rfl); done)))
           (try simp only [Act.put, List.setIfInBounds_toArray, List.set_cons_zero, List.set_cons_succ])
           (refine takeL (i := 7) (v := ?_) rfl (by kernel_rfl) (by decide +kernel) (by decide +kernel) (fun _ _ _ h => h) (Or.inl ⟨by rfl, ?_⟩) (by assumption) ?_; rotate_left; (focus (intro w9 hS9; (try dsimp only at hS9); go_simp; (try with_reducible rfl); done)))
           (try simp only [Act.put, List.setIfInBounds_toArray, List.set_cons_zero, List.set_cons_succ])
           refine wpAnyH_ready (rs := [5, 6]) (by decide +kernel) (by simp) ?_
           refine consL rfl (fun K hK => ?_) ?_
           ·(first | fail | (go_simp; first | done | (first | fail)) | go_simp)
            (first | (with_reducible refine hK.out _ _ ?_ ?_) | (go_wp2_with fail; refine hK.out _ _ ?_ ?_))
            (focus (exact trivial))
            clear hK K hHeld
            intro hHeld
            (try simp only [Act.put, List.setIfInBounds_toArray, List.set_cons_zero, List.set_cons_succ])
            refine wpAnyH_ready (rs := [6]) (by decide +kernel) (by simp) ?_
            refine consL rfl (fun K hK => ?_) ?_
            ·(first | fail | (go_simp; first | done | (first | fail)) | go_simp)
             (first | (with_reducible refine hK.out _ _ ?_ ?_) | (go_wp2_with fail; refine hK.out _ _ ?_ ?_))
             (focus (exact trivial))
             clear hK K hHeld
             intro hHeld
             (try simp only [Act.put, List.setIfInBounds_toArray, List.set_cons_zero, List.set_cons_succ])
             (refine takeL (i := 8) (v := ?_) rfl (by kernel_rfl) (by decide +kernel) (by decide +kernel) (fun _ _ _ h => h) (Or.inl ⟨by rfl, ?_⟩) (by assumption) ?_; rotate_left; (focus (intro w9 hS9; (try dsimp only at hS9); go_simp; (try with_reducible rfl); done)))
             (try simp only [Act.put, List.setIfInBounds_toArray, List.set_cons_zero, List.set_cons_succ])
             refine wpAnyH_ready (rs := [9]) (by decide +kernel) (by simp) ?_
             refine consL rfl (fun K hK => ?_) ?_
             ·(first | fail | (go_simp; first | done | (first | fail)) | go_simp)
              (first | (with_reducible refine hK.out _ _ ?_ ?_) | (go_wp2_with fail; refine hK.out _ _ ?_ ?_))
              (focus (exact trivial))
              clear hK K hHeld
              intro hHeld
              (try simp only [Act.put, List.setIfInBounds_toArray, List.set_cons_zero, List.set_cons_succ])
              refine wpAnyH_ready (rs := [10]) (by decide +kernel) (by simp) ?_
              refine consL rfl (fun K hK => ?_) ?_
              ·(first | (refine step_append_lies _ rfl _ _ 28 rfl B 72 k0 (.agg #[.int .u32 0, .int .i64 0, .int .i64 0]) 3 24 Tryz.underlying28 hi0 hi1 hi2 hi3 rfl (by decide) _ _ _ rfl (HO8.out.alloc _) ⟨_, 0, none⟩ 1 1 (pfV (x, y, n)) rfl rfl (cells_new _ (pfV (x, y, n)) _) (by intro u hu; simp only [pfV, List.mem_cons, List.not_mem_nil, or_false] at hu; rcases hu with rfl | rfl | rfl <;> rfl) (by decide) (by have := HLM.out; unfold maxLen; omega) (by have := HLM.out; omega) (Nat.le_trans H8.out.sz (by simp)) _ rfl ?_; intro gg cap W9 ap1 ap2 ap3 ap4; obtain ⟨p1, p2, p3, p4⟩ := H8.out.pushP (x := (x, y, n)) ap1 ap2 ap3 HLM.out; have P1 := Lib.hid p1; have P2 := Lib.hid p2; clear p1 p2 ap1 ap2 ap3 ap4) | (go_simp; first | done | (first | (refine step_append_lies _ rfl _ _ 28 rfl B 72 k0 (.agg #[.int .u32 0, .int .i64 0, .int .i64 0]) 3 24 Tryz.underlying28 hi0 hi1 hi2 hi3 rfl (by decide) _ _ _ rfl (HO8.out.alloc _) ⟨_, 0, none⟩ 1 1 (pfV (x, y, n)) rfl rfl (cells_new _ (pfV (x, y, n)) _) (by intro u hu; simp only [pfV, List.mem_cons, List.not_mem_nil, or_false] at hu; rcases hu with rfl | rfl | rfl <;> rfl) (by decide) (by have := HLM.out; unfold maxLen; omega) (by have := HLM.out; omega) (Nat.le_trans H8.out.sz (by simp)) _ rfl ?_; intro gg cap W9 ap1 ap2 ap3 ap4; obtain ⟨p1, p2, p3, p4⟩ := H8.out.pushP (x := (x, y, n)) ap1 ap2 ap3 HLM.out; have P1 := Lib.hid p1; have P2 := Lib.hid p2; clear p1 p2 ap1 ap2 ap3 ap4))) | go_simp)
               (first | (with_reducible refine hK.out _ _ ?_ ?_) | (go_wp2_with fail; refine hK.out _ _ ?_ ?_))
               (focus (exact trivial))
               clear hK K hHeld
               intro hHeld
               (try simp only [Act.put, List.setIfInBounds_toArray, List.set_cons_zero, List.set_cons_succ])
               (refine takeL (i := 11) (v := ?_) rfl (by kernel_rfl) (by decide +kernel) (by decide +kernel) (fun _ _ _ h => h) (Or.inl ⟨by rfl, ?_⟩) (by assumption) ?_; rotate_left; (focus (intro w9 hS9; (try dsimp only at hS9); go_simp; (try with_reducible rfl); done)))
               (try simp only [Act.put, List.setIfInBounds_toArray, List.set_cons_zero, List.set_cons_succ])
               (refine takeL (i := 12) (v := ?_) rfl (by kernel_rfl) (by decide +kernel) (by decide +kernel) (fun _ _ _ h => h) (Or.inl ⟨by rfl, ?_⟩) (by assumption) ?_; rotate_left; (focus (intro w9 hS9; (try dsimp only at hS9); go_simp; (try with_reducible rfl); done)))
               (try simp only [Act.put, List.setIfInBounds_toArray, List.set_cons_zero, List.set_cons_succ])
               (refine takeL (i := 13) (v := ?_) rfl (by kernel_rfl) (by decide +kernel) (by decide +kernel) (fun _ _ _ h => h) (Or.inl ⟨by rfl, ?_⟩) (by assumption) ?_; rotate_left; (focus (intro w9 hS9; (try dsimp only at hS9); go_simp; (try with_reducible rfl); done)))
               (try simp only [Act.put, List.setIfInBounds_toArray, List.set_cons_zero, List.set_cons_succ])
               refine wpAnyH_ready (rs := [14]) (by decide +kernel) (by simp) ?_
               refine consL rfl (fun K hK => ?_) ?_
               ·(first | fail | (go_simp; first | done | (first | fail)) | go_simp)
                (first | (with_reducible refine hK.out _ _ ?_ ?_) | (go_wp2_with fail; refine hK.out _ _ ?_ ?_))
                (focus (exact trivial))
                clear hK K hHeld
                intro hHeld
                (try simp only [Act.put, List.setIfInBounds_toArray, List.set_cons_zero, List.set_cons_succ])
                refine wpAnyH_done (by decide +kernel) ?_ _
                go_wp2_with fail
                go_end0
                obtain rfl := HV.out
                exact ⟨rfl, ((HN4.out.toM (Y := [pb, sb, xb, yb]) H0.out.st.sz (by simp)).drew.trans HM5.out).drew.trans P2.out, _, _, P1.out, (fun h => by rw [HDR.out] at h; cases h), rfl⟩
               exact AllReadyH.nil
              exact AllReadyH.nil
             exact AllReadyH.nil
            exact AllReadyH.nil
           refine consL rfl (fun K hK => ?_) ?_
           ·(first | fail | (go_simp; first | done | (first | fail)) | go_simp)
            (first | (with_reducible refine hK.out _ _ ?_ ?_) | (go_wp2_with fail; refine hK.out _ _ ?_ ?_))
            (focus (exact trivial))
            clear hK K hHeld
            intro hHeld
            (try simp only [Act.put, List.setIfInBounds_toArray, List.set_cons_zero, List.set_cons_succ])
            (refine takeL (i := 8) (v := ?_) rfl (by kernel_rfl) (by decide +kernel) (by decide +kernel) (fun _ _ _ h => h) (Or.inl ⟨by rfl, ?_⟩) (by assumption) ?_; rotate_left; (focus (intro w9 hS9; (try dsimp only at hS9); go_simp; (try with_reducible rfl); done)))
            (try simp only [Act.put, List.setIfInBounds_toArray, List.set_cons_zero, List.set_cons_succ])
            refine wpAnyH_ready (rs := [5, 9]) (by decide +kernel) (by simp) ?_
            refine consL rfl (fun K hK => ?_) ?_
            ·(first | fail | (go_simp; first | done | (first | fail)) | go_simp)
             (first | (with_reducible refine hK.out _ _ ?_ ?_) | (go_wp2_with fail; refine hK.out _ _ ?_ ?_))
             (focus (exact trivial))
             clear hK K hHeld
             intro hHeld
             (try simp only [Act.put, List.setIfInBounds_toArray, List.set_cons_zero, List.set_cons_succ])
             refine wpAnyH_ready (rs := [9]) (by decide +kernel) (by simp) ?_
             refine consL rfl (fun K hK => ?_) ?_
             ·(first | fail | (go_simp; first | done | (first | fail)) | go_simp)
              (first | (with_reducible refine hK.out _ _ ?_ ?_) | (go_wp2_with fail; refine hK.out _ _ ?_ ?_))
              (focus (exact trivial))
              clear hK K hHeld
              intro hHeld
              (try simp only [Act.put, List.setIfInBounds_toArray, List.set_cons_zero, List.set_cons_succ])
              refine wpAnyH_ready (rs := [10]) (by decide +kernel) (by simp) ?_
              refine consL rfl (fun K hK => ?_) ?_
              ·(first | (refine step_append_lies _ rfl _ _ 28 rfl B 72 k0 (.agg #[.int .u32 0, .int .i64 0, .int .i64 0]) 3 24 Tryz.underlying28 hi0 hi1 hi2 hi3 rfl (by decide) _ _ _ rfl (HO8.out.alloc _) ⟨_, 0, none⟩ 1 1 (pfV (x, y, n)) rfl rfl (cells_new _ (pfV (x, y, n)) _) (by intro u hu; simp only [pfV, List.mem_cons, List.not_mem_nil, or_false] at hu; rcases hu with rfl | rfl | rfl <;> rfl) (by decide) (by have := HLM.out; unfold maxLen; omega) (by have := HLM.out; omega) (Nat.le_trans H8.out.sz (by simp)) _ rfl ?_; intro gg cap W9 ap1 ap2 ap3 ap4; obtain ⟨p1, p2, p3, p4⟩ := H8.out.pushP (x := (x, y, n)) ap1 ap2 ap3 HLM.out; have P1 := Lib.hid p1; have P2 := Lib.hid p2; clear p1 p2 ap1 ap2 ap3 ap4) | (go_simp; first | done | (first | (refine step_append_lies _ rfl _ _ 28 rfl B 72 k0 (.agg #[.int .u32 0, .int .i64 0, .int .i64 0]) 3 24 Tryz.underlying28 hi0 hi1 hi2 hi3 rfl (by decide) _ _ _ rfl (HO8.out.alloc _) ⟨_, 0, none⟩ 1 1 (pfV (x, y, n)) rfl rfl (cells_new _ (pfV (x, y, n)) _) (by intro u hu; simp only [pfV, List.mem_cons, List.not_mem_nil, or_false] at hu; rcases hu with rfl | rfl | rfl <;> rfl) (by decide) (by have := HLM.out; unfold maxLen; omega) (by have := HLM.out; omega) (Nat.le_trans H8.out.sz (by simp)) _ rfl ?_; intro gg cap W9 ap1 ap2 ap3 ap4; obtain ⟨p1, p2, p3, p4⟩ := H8.out.pushP (x := (x, y, n)) ap1 ap2 ap3 HLM.out; have P1 := Lib.hid p1; have P2 := Lib.hid p2; clear p1 p2 ap1 ap2 ap3 ap4))) | go_simp)
               (first | (with_reducible refine hK.out _ _ ?_ ?_) | (go_wp2_with fail; refine hK.out _ _ ?_ ?_))
               (focus (exact trivial))
               clear hK K hHeld
               intro hHeld
               (try simp only [Act.put, List.setIfInBounds_toArray, List.set_cons_zero, List.set_cons_succ])
               (refine takeL (i := 11) (v := ?_) rfl (by kernel_rfl) (by decide +kernel) (by decide +kernel) (fun _ _ _ h => h) (Or.inl ⟨by rfl, ?_⟩) (by assumption) ?_; rotate_left; (focus (intro w9 hS9; (try dsimp only at hS9); go_simp; (try with_reducible rfl); done)))
               (try simp only [Act.put, List.setIfInBounds_toArray, List.set_cons_zero, List.set_cons_succ])
               (refine takeL (i := 12) (v := ?_) rfl (by kernel_rfl) (by decide +kernel) (by decide +kernel) (fun _ _ _ h => h) (Or.inl ⟨by rfl, ?_⟩) (by assumption) ?_; rotate_left; (focus (intro w9 hS9; (try dsimp only at hS9); go_simp; (try with_reducible rfl); done)))
               (try simp only [Act.put, List.setIfInBounds_toArray, List.set_cons_zero, List.set_cons_succ])
               (refine takeL (i := 13) (v := ?_) rfl (by kernel_rfl) (by decide +kernel) (by decide +kernel) (fun _ _ _ h => h) (Or.inl ⟨by rfl, ?_⟩) (by assumption) ?_; rotate_left; (focus (intro w9 hS9; (try dsimp only at hS9); go_simp; (try with_reducible rfl); done)))
               (try simp only [Act.put, List.setIfInBounds_toArray, List.set_cons_zero, List.set_cons_succ])
               refine wpAnyH_ready (rs := [14]) (by decide +kernel) (by simp) ?_
               refine consL rfl (fun K hK => ?_) ?_
               ·(first | fail | (go_simp; first | done | (first | fail)) | go_simp)
                (first | (with_reducible refine hK.out _ _ ?_ ?_) | (go_wp2_with fail; refine hK.out _ _ ?_ ?_))
                (focus (exact trivial))
                clear hK K hHeld
                intro hHeld
                (try simp only [Act.put, List.setIfInBounds_toArray, List.set_cons_zero, List.set_cons_succ])
                refine wpAnyH_done (by decide +kernel) ?_ _
                go_wp2_with fail
                go_end0
                obtain rfl := HV.out
                exact ⟨rfl, ((HN4.out.toM (Y := [pb, sb, xb, yb]) H0.out.st.sz (by simp)).drew.trans HM5.out).drew.trans P2.out, _, _, P1.out, (fun h => by rw [HDR.out] at h; cases h), rfl⟩
               exact AllReadyH.nil
              exact AllReadyH.nil
             exact AllReadyH.nil
            refine consL rfl (fun K hK => ?_) ?_
            ·(first | fail | (go_simp; first | done | (first | fail)) | go_simp)
             (first | (with_reducible refine hK.out _ _ ?_ ?_) | (go_wp2_with fail; refine hK.out _ _ ?_ ?_))
             (focus (exact trivial))
             clear hK K hHeld
             intro hHeld
             (try simp only [Act.put, List.setIfInBounds_toArray, List.set_cons_zero, List.set_cons_succ])
             have e9 := cell_up (below_box w5 (.cells (pfV (x, y, n)).toArray 72)) v4
             simp only [pfV] at e9
             refine wpAnyH_ready (rs := [5]) (by decide +kernel) (by simp) ?_
             refine consL rfl (fun K hK => ?_) ?_
             ·(first | fail | (go_simp; first | done | (first | fail)) | go_simp)
              (first | (with_reducible refine hK.out _ _ ?_ ?_) | (go_wp2_with fail; refine hK.out _ _ ?_ ?_))
              (focus (exact trivial))
              clear hK K hHeld
              intro hHeld
              (try simp only [Act.put, List.setIfInBounds_toArray, List.set_cons_zero, List.set_cons_succ])
              refine wpAnyH_ready (rs := [10]) (by decide +kernel) (by simp) ?_
              refine consL rfl (fun K hK => ?_) ?_
              ·(first | (refine step_append_lies _ rfl _ _ 28 rfl B 72 k0 (.agg #[.int .u32 0, .int .i64 0, .int .i64 0]) 3 24 Tryz.underlying28 hi0 hi1 hi2 hi3 rfl (by decide) _ _ _ rfl (HO8.out.alloc _) ⟨_, 0, none⟩ 1 1 (pfV (x, y, n)) rfl rfl (cells_new _ (pfV (x, y, n)) _) (by intro u hu; simp only [pfV, List.mem_cons, List.not_mem_nil, or_false] at hu; rcases hu with rfl | rfl | rfl <;> rfl) (by decide) (by have := HLM.out; unfold maxLen; omega) (by have := HLM.out; omega) (Nat.le_trans H8.out.sz (by simp)) _ rfl ?_; intro gg cap W9 ap1 ap2 ap3 ap4; obtain ⟨p1, p2, p3, p4⟩ := H8.out.pushP (x := (x, y, n)) ap1 ap2 ap3 HLM.out; have P1 := Lib.hid p1; have P2 := Lib.hid p2; clear p1 p2 ap1 ap2 ap3 ap4) | (go_simp; first | done | (first | (refine step_append_lies _ rfl _ _ 28 rfl B 72 k0 (.agg #[.int .u32 0, .int .i64 0, .int .i64 0]) 3 24 Tryz.underlying28 hi0 hi1 hi2 hi3 rfl (by decide) _ _ _ rfl (HO8.out.alloc _) ⟨_, 0, none⟩ 1 1 (pfV (x, y, n)) rfl rfl (cells_new _ (pfV (x, y, n)) _) (by intro u hu; simp only [pfV, List.mem_cons, List.not_mem_nil, or_false] at hu; rcases hu with rfl | rfl | rfl <;> rfl) (by decide) (by have := HLM.out; unfold maxLen; omega) (by have := HLM.out; omega) (Nat.le_trans H8.out.sz (by simp)) _ rfl ?_; intro gg cap W9 ap1 ap2 ap3 ap4; obtain ⟨p1, p2, p3, p4⟩ := H8.out.pushP (x := (x, y, n)) ap1 ap2 ap3 HLM.out; have P1 := Lib.hid p1; have P2 := Lib.hid p2; clear p1 p2 ap1 ap2 ap3 ap4))) | go_simp)
               (first | (with_reducible refine hK.out _ _ ?_ ?_) | (go_wp2_with fail; refine hK.out _ _ ?_ ?_))
               (focus (exact trivial))
               clear hK K hHeld
               intro hHeld
               (try simp only [Act.put, List.setIfInBounds_toArray, List.set_cons_zero, List.set_cons_succ])
               (refine takeL (i := 11) (v := ?_) rfl (by kernel_rfl) (by decide +kernel) (by decide +kernel) (fun _ _ _ h => h) (Or.inl ⟨by rfl, ?_⟩) (by assumption) ?_; rotate_left; (focus (intro w9 hS9; (try dsimp only at hS9); go_simp; (try with_reducible rfl); done)))
               (try simp only [Act.put, List.setIfInBounds_toArray, List.set_cons_zero, List.set_cons_succ])
               (refine takeL (i := 12) (v := ?_) rfl (by kernel_rfl) (by decide +kernel) (by decide +kernel) (fun _ _ _ h => h) (Or.inl ⟨by rfl, ?_⟩) (by assumption) ?_; rotate_left; (focus (intro w9 hS9; (try dsimp only at hS9); go_simp; (try with_reducible rfl); done)))
               (try simp only [Act.put, List.setIfInBounds_toArray, List.set_cons_zero, List.set_cons_succ])
               (refine takeL (i := 13) (v := ?_) rfl (by kernel_rfl) (by decide +kernel) (by decide +kernel) (fun _ _ _ h => h) (Or.inl ⟨by rfl, ?_⟩) (by assumption) ?_; rotate_left; (focus (intro w9 hS9; (try dsimp only at hS9); go_simp; (try with_reducible rfl); done)))
               (try simp only [Act.put, List.setIfInBounds_toArray, List.set_cons_zero, List.set_cons_succ])
               refine wpAnyH_ready (rs := [14]) (by decide +kernel) (by simp) ?_
               refine consL rfl (fun K hK => ?_) ?_
               ·(first | fail | (go_simp; first | done | (first | fail)) | go_simp)
                (first | (with_reducible refine hK.out _ _ ?_ ?_) | (go_wp2_with fail; refine hK.out _ _ ?_ ?_))
                (focus (exact trivial))
                clear hK K hHeld
                intro hHeld
                (try simp only [Act.put, List.setIfInBounds_toArray, List.set_cons_zero, List.set_cons_succ])
                refine wpAnyH_done (by decide +kernel) ?_ _
                go_wp2_with fail
                go_end0
                obtain rfl := HV.out
                exact ⟨rfl, ((HN4.out.toM (Y := [pb, sb, xb, yb]) H0.out.st.sz (by simp)).drew.trans HM5.out).drew.trans P2.out, _, _, P1.out, (fun h => by rw [HDR.out] at h; cases h), rfl⟩
               exact AllReadyH.nil
              exact AllReadyH.nil
             exact AllReadyH.nil
            exact AllReadyH.nil
           exact AllReadyH.nil
          exact AllReadyH.nil
         exact AllReadyH.nil
        exact AllReadyH.nil
       exact AllReadyH.nil
end
end Go.Proofs.YtfimacgmciogmaaGreatDoor
