/-
  Topologies: the text of a valid one is read back as the same topology.
-/
import Derived.Test.YtfbloolloifndaaDoorTPs
import Derived.Test.YtfbloolloifndaaDoorRefTP
import Derived.Test.YtfbloolloifndaaDoorAwake09
import Derived.Test.YtfbloolloifndaaDoorRefSame
namespace Go.Proofs.YtfbloolloifndaaDoor
set_option linter.unusedSimpArgs false
set_option linter.unusedVariables false
open Go.RowKit Go.Shelf Go.Sort

theorem norm_eq {t : Topo} (h : t.ov.any id = true) : normT t = t := by unfold normT; rw [if_pos h]
theorem norm_free {t : Topo} (h : t.ov.any id = false) : normT t = { t with ov := [] } := by unfold normT; rw [if_neg (by rw [h]; exact Bool.false_ne_true)]
theorem ovK_free {ov : List Bool} (h : ov.any id = false) : ∀ k, ovK ov k = []
  | 0 => rfl
  | k + 1 => by
    rw [ovK_succ, ovK_free h k]
    have : ov.getD k false = false := by
      rw [List.getD_eq_getElem?_getD]
      cases hk : ov[k]? with
      | none => rfl
      | some b =>
        rw [List.any_eq_false] at h
        simpa using h b (List.mem_of_getElem? hk)
    unfold ovOne
    rw [if_neg (by rw [this]; exact Bool.false_ne_true)]
    rfl
theorem text_norm (t : Topo) : textOf (normT t) = textOf t := by
  cases h : t.ov.any id with
  | true => rw [norm_eq h]
  | false =>
    rw [norm_free h]
    unfold textOf
    rw [ovK_free h]
    rfl
theorem valid_norm {t : Topo} (hv : valid t = true) : valid (normT t) = true := by
  cases h : t.ov.any id with
  | true => rw [norm_eq h]; exact hv
  | false =>
    rw [norm_free h]
    unfold valid at hv ⊢
    simp only [Bool.and_eq_true, Bool.or_eq_true, decide_eq_true_eq] at hv ⊢
    exact ⟨⟨⟨hv.1.1.1, hv.1.1.2⟩, .inl rfl⟩, hv.2⟩
theorem same_norm (t : Topo) : same t (normT t) = true := by
  cases h : t.ov.any id with
  | true => rw [norm_eq h]; exact same_refl t
  | false => rw [norm_free h]; exact same_free rfl rfl h rfl
theorem norm_ov_le (t : Topo) : (normT t).ov.length ≤ t.ov.length := by
  unfold normT
  by_cases h : t.ov.any id = true
  · simp only [if_pos h]; exact Nat.le_refl _
  · simp only [if_neg h]; exact Nat.zero_le _
theorem text_len {t : Topo} (hv : valid t = true) : (textOf t).length ≤ 50000 := by
  obtain ⟨h1, h2, h3, h4, _⟩ := valid_parts hv
  have g1 := lineT_len (s := sNodes) (xs := [t.n]) (by intro x hx; simp at hx; subst hx; omega)
  have g2 := ovK_len t.ov t.ov.length (by omega)
  have g3 := lkK_len hv t.ls.length (Nat.le_refl _)
  unfold textOf
  simp [sNodes] at g1 ⊢
  omega
theorem topoP_text {t : Topo} (hv : valid t = true) : topoP (textOf t) = (normT t, 0) := by
  unfold topoP
  rw [fold_text hv]
  simp only
  rw [if_pos ⟨valid_norm hv, text_norm t⟩]
theorem topoP_nil : topoP [] = (zeroT, 3) := rfl
/-- What both parsers return. -/
theorem topoP_cases (s : List UInt8) : (topoP s = (zeroT, 3)) ∨ (∃ t, topoP s = (t, 0) ∧ textV t = s) := by
  unfold topoP
  cases foldT (linesK s) zeroT with
  | none => exact .inl rfl
  | some t =>
    simp only
    by_cases h : valid t = true ∧ textOf t = s
    · rw [if_pos h]; exact .inr ⟨t, rfl, by unfold textV; rw [if_pos h.1]; exact h.2⟩
    · rw [if_neg h]; exact .inl rfl
theorem topoP_bd (s : List UInt8) (hs : s.length ≤ 50000) : (topoP s).1.ov.length ≤ 64 ∧ (topoP s).1.ls.length ≤ 256 := by
  unfold topoP
  cases foldT (linesK s) zeroT with
  | none => exact ⟨by simp [zeroT], by simp [zeroT]⟩
  | some t =>
    simp only
    by_cases h : valid t = true ∧ textOf t = s
    · rw [if_pos h]
      obtain ⟨h1, h2, h3, h4, _⟩ := valid_parts h.1
      exact ⟨by simp only; omega, h3⟩
    · rw [if_neg h]; exact ⟨by simp [zeroT], by simp [zeroT]⟩

theorem FT.up_below {w w' : World} (h : FT w.heap.size w) (hb : Below w.heap.size w w') : FT w'.heap.size w' := fun W hW => h W fun k hk => (hW k (Nat.lt_of_lt_of_le hk hb.size)).trans (hb.block k hk)
/-- The tables, as the row lists them. -/
theorem ft_of {W : World} (hA : ∀ c : Nat, c < 256 → W.cell? ⟨0, c, none⟩ = some (.int .u8 (Lib.asciiSpaceTab.getD c 0))) (hW : Lib.WhiteTab 1 W) (hU : Lib.Utf8Tabs 3 4 W) : FT W.heap.size W := by
  intro w' hk
  have hsz : W.heap.size ≤ w'.heap.size := by
    by_cases h0 : W.heap.size = 0
    · omega
    · have h1 := hk (W.heap.size - 1) (by omega)
      rw [Array.getElem?_eq_getElem (xs := W.heap) (by omega)] at h1
      have := (Array.getElem?_eq_some_iff.1 h1).1
      omega
  have hb : Below W.heap.size W { w' with os := W.os, tape := W.tape, output := W.output } := ⟨rfl, rfl, rfl, hsz, hk⟩
  refine ⟨fun c hc => ?_, ?_, ?_⟩
  · have h : World.cell? { w' with os := W.os, tape := W.tape, output := W.output } ⟨0, c, none⟩ = some (.int .u8 (Lib.asciiSpaceTab.getD c 0)) := cell_up hb (hA c hc)
    exact h
  · have h : Lib.WhiteTab 1 { w' with os := W.os, tape := W.tape, output := W.output } := WhiteTab_below hW hb
    exact h
  · have h : Lib.Utf8Tabs 3 4 { w' with os := W.os, tape := W.tape, output := W.output } := Utf8Tabs_below hU hb
    exact h

end Go.Proofs.YtfbloolloifndaaDoor
