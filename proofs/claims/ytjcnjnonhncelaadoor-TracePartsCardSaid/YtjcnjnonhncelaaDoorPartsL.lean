/-
  Parts of traces in plain Lean: cut at an index, cut at a time.
-/
import Derived.Test.YtjcnjnonhncelaaDoorParT
import Derived.Test.YtjcnjnonhncelaaDoorAppE
namespace Go.Proofs.YtjcnjnonhncelaaDoor
set_option linter.unusedSimpArgs false
set_option linter.unusedVariables false

theorem trOk_right : ∀ {l m : List Ev}, trOk (l ++ m) = true → trOk m = true := by
  intro l m h
  refine trOk_of fun k hk => ?_
  have h2 := trOk_at h (k := l.length + k) (by simp; omega)
  have e : ∀ j, (l ++ m)[l.length + j]? = m[j]? := fun j => by rw [List.getElem?_append_right (by omega)]; congr 1; omega
  obtain ⟨x, hx⟩ : ∃ x, m[k]? = some x := ⟨_, List.getElem?_eq_getElem hk⟩
  have hx2 : (l ++ m)[l.length + k]? = some x := by rw [e]; exact hx
  unfold goodE at h2 ⊢
  rw [getD_at hx2] at h2
  rw [getD_at hx]
  cases k with
  | zero => simp at h2 ⊢; exact h2.1
  | succ k =>
    obtain ⟨y, hy⟩ : ∃ y, m[k]? = some y := ⟨_, List.getElem?_eq_getElem (by omega)⟩
    have hy2 : (l ++ m)[l.length + k]? = some y := by rw [e]; exact hy
    rw [Nat.add_sub_cancel, getD_at hy]
    rw [show l.length + (k + 1) - 1 = l.length + k by omega, getD_at hy2] at h2
    simp only [Nat.succ_ne_zero, decide_false, Bool.false_or, Bool.and_eq_true] at h2 ⊢
    refine ⟨h2.1, ?_⟩
    have := h2.2
    rw [show decide (l.length + (k + 1) = 0) = false by simp] at this
    simpa using this
theorem trOk_take {l : List Ev} (h : trOk l = true) (k : Nat) : trOk (l.take k) = true := trOk_left (m := l.drop k) (by rw [List.take_append_drop]; exact h)
theorem trOk_drop {l : List Ev} (h : trOk l = true) (k : Nat) : trOk (l.drop k) = true := trOk_right (l := l.take k) (by rw [List.take_append_drop]; exact h)
theorem trT_cut (l : List Ev) (k : Nat) : trT (l.take k) ++ trT (l.drop k) = trT l := by rw [← trT_app, List.take_append_drop]
theorem all_le : ∀ (n : Nat) (l : List Ev) (e : Ev), l.length = n → trOk (l ++ [e]) = true → ∀ x ∈ l, x.t ≤ e.t := by
  intro n
  induction n with
  | zero => intro l e hl _ x hx; rw [List.eq_nil_of_length_eq_zero hl] at hx; cases hx
  | succ n ih =>
    intro l e hl h x hx
    rcases List.eq_nil_or_concat l with rfl | ⟨m, d, rfl⟩
    · cases hx
    · rw [List.concat_eq_append] at *
      obtain ⟨h1, _, h3⟩ := trOk_snoc.1 h
      have hd : d.t ≤ e.t := by simp [late] at h3; exact h3
      rcases List.mem_append.1 hx with hx | hx
      · have := ih m d (by simp at hl; exact hl) h1 x hx
        omega
      · simp at hx; subst hx; exact hd
theorem bet_whole (a M : Int) (ha : 0 ≤ a) (hM : 1073741824 < M) : ∀ (n : Nat) (l : List Ev), l.length = n → trOk l = true → betL l 0 a ++ betL l a M = l := by
  intro n
  induction n with
  | zero => intro l hl _; rw [List.eq_nil_of_length_eq_zero hl]; rfl
  | succ n ih =>
    intro l hl h
    rcases List.eq_nil_or_concat l with rfl | ⟨m, e, rfl⟩
    · simp at hl
    · rw [List.concat_eq_append] at *
      obtain ⟨h1, h2, h3⟩ := trOk_snoc.1 h
      have hb := evOk_bd h2
      have hm := ih m (by simp at hl; exact hl) h1
      unfold betL at hm ⊢
      by_cases hlt : e.t < a
      · have hall := all_le m.length m e rfl h
        have hn : m.filter (betP a M) = [] := by
          rw [List.filter_eq_nil_iff]
          intro x hx
          have := hall x hx
          simp [betP]; omega
        rw [hn, List.append_nil] at hm
        have h4 : betP 0 a e = true := by simp [betP]; omega
        have h5 : betP a M e = false := by simp [betP]; omega
        rw [List.filter_append, List.filter_append, hn, hm]
        simp [List.filter_cons, h4, h5]
      · have h4 : betP 0 a e = false := by simp [betP]; omega
        have h5 : betP a M e = true := by simp [betP]; omega
        rw [List.filter_append, List.filter_append]
        simp only [List.filter_cons, h4, h5, List.filter_nil, if_true, List.append_nil]
        rw [← List.append_assoc]
        simp [hm]

end Go.Proofs.YtjcnjnonhncelaaDoor
