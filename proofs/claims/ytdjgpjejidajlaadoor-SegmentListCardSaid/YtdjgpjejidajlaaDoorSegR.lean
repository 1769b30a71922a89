/-
  The texts of segments in plain Lean: a text stands for one segment. Nothing of the program is stated here but numbers.
-/
import Derived.Test.YtdjgpjejidajlaaDoorKind
import Derived.Test.YtdjgpjejidajlaaDoorNum
namespace Go.Proofs.YtdjgpjejidajlaaDoor
open Go.RowKit Go.Sort

theorem letL_kind {k : Int} {c : UInt8} (h : letL k = some c) : (k = 1 ∧ c = 110) ∨ (k = 2 ∧ c = 97) ∨ (k = 3 ∧ c = 103) ∨ (k = 4 ∧ c = 98) := by
  unfold letL at h
  by_cases h1 : k = 1
  · rw [if_pos h1] at h; injection h with h; exact .inl ⟨h1, h.symm⟩
  rw [if_neg h1] at h
  by_cases h2 : k = 2
  · rw [if_pos h2] at h; injection h with h; exact .inr (.inl ⟨h2, h.symm⟩)
  rw [if_neg h2] at h
  by_cases h3 : k = 3
  · rw [if_pos h3] at h; injection h with h; exact .inr (.inr (.inl ⟨h3, h.symm⟩))
  rw [if_neg h3] at h
  by_cases h4 : k = 4
  · rw [if_pos h4] at h; injection h with h; exact .inr (.inr (.inr ⟨h4, h.symm⟩))
  rw [if_neg h4] at h
  cases h
theorem kindL_let {k : Int} {c : UInt8} (h : letL k = some c) : kindL (c.toNat : Int) = k := by
  rcases letL_kind h with ⟨rfl, rfl⟩ | ⟨rfl, rfl⟩ | ⟨rfl, rfl⟩ | ⟨rfl, rfl⟩ <;> decide
theorem segT_open {k m : Int} (h : segT k m ≠ []) : ∃ c, letL k = some c ∧ segT k m = c :: Lib.itoa m ∧ 0 ≤ m ∧ m ≤ 999999999 := by
  unfold segT at h ⊢
  by_cases hm : 0 ≤ m ∧ m ≤ 999999999
  · rw [if_pos hm] at h ⊢
    cases hk : letL k with
    | none => rw [hk] at h; exact absurd rfl h
    | some c => exact ⟨c, rfl, rfl, hm.1, hm.2⟩
  · rw [if_neg hm] at h; exact absurd rfl h
theorem itoa_inj' {m m' : Int} (h0 : 0 ≤ m) (h1 : m ≤ 999999999) (h0' : 0 ≤ m') (h1' : m' ≤ 999999999) (h : Lib.itoa m = Lib.itoa m') : m = m' := by
  have e1 := atoi_itoa h0 h1
  rw [h, atoi_itoa h0' h1'] at e1
  injection e1 with e1
  exact e1.symm
theorem segT_inj {k m k' m' : Int} (h : segT k m = segT k' m') (hne : segT k m ≠ []) : k = k' ∧ m = m' := by
  obtain ⟨c, e1, w1, a1, b1⟩ := segT_open hne
  obtain ⟨c', e2, w2, a2, b2⟩ := segT_open (h ▸ hne)
  rw [w1, w2] at h
  injection h with hc hm
  subst hc
  exact ⟨(kindL_let e1).symm.trans (kindL_let e2), itoa_inj' a1 b1 a2 b2 hm⟩

/-- What Parse returns: the segment with a text, or ErrSyntax. -/
def SegR (s : List UInt8) (k m er : Int) : Prop := (er = 0 ∧ s ≠ [] ∧ segT k m = s) ∨ (er = 3 ∧ k = 0 ∧ m = 0 ∧ ∀ k m, segT k m = s → s = [])
theorem segR_unique {s : List UInt8} {k m er k' m' er' : Int} (h : SegR s k m er) (h' : SegR s k' m' er') : k = k' ∧ m = m' ∧ er = er' := by
  rcases h with ⟨rfl, hs, hc⟩ | ⟨rfl, rfl, rfl, hn⟩ <;> rcases h' with ⟨rfl, hs', hc'⟩ | ⟨rfl, rfl, rfl, hn'⟩
  · obtain ⟨h1, h2⟩ := segT_inj (hc.trans hc'.symm) (hc ▸ hs)
    exact ⟨h1, h2, rfl⟩
  · exact absurd (hn' _ _ hc) hs
  · exact absurd (hn _ _ hc') hs'
  · exact ⟨rfl, rfl, rfl⟩
theorem seg_of_text {k m k' m' er : Int} (h : SegR (segT k m) k' m' er) : (segT k m = [] → er = 3) ∧ (segT k m ≠ [] → er = 0 ∧ k' = k ∧ m' = m) := by
  rcases h with ⟨rfl, hs, hc⟩ | ⟨rfl, rfl, rfl, hn⟩
  · refine ⟨fun e => absurd e hs, fun _ => ?_⟩
    obtain ⟨h1, h2⟩ := segT_inj hc (by rw [hc]; exact hs)
    exact ⟨rfl, h1, h2⟩
  · exact ⟨fun _ => rfl, fun e => absurd (hn k m rfl) e⟩
/-- A text of a segment: its letter, and its numeral. -/
theorem seg_none_num {c : UInt8} {y : List UInt8} (h : ∀ v, Lib.atoiAll y ≠ .ok v) : ∀ k m, segT k m = c :: y → c :: y = [] := by
  intro k m hc
  obtain ⟨c', _, e, a, b⟩ := segT_open (k := k) (m := m) (by rw [hc]; simp)
  rw [hc] at e
  injection e with _ e
  exact absurd (e ▸ atoi_itoa a b) (h m)
theorem seg_none_text {c : UInt8} {y : List UInt8} {v : Int} (hv : Lib.atoiAll y = .ok v) (h : segT (kindL (c.toNat : Int)) v ≠ c :: y) : ∀ k m, segT k m = c :: y → c :: y = [] := by
  intro k m hc
  obtain ⟨c', hl, e, a, b⟩ := segT_open (k := k) (m := m) (by rw [hc]; simp)
  rw [hc] at e
  injection e with e1 e2
  subst e1 e2
  rw [atoi_itoa a b] at hv
  injection hv with hv
  subst hv
  rw [kindL_let hl] at h
  exact absurd hc h
theorem seg_none_short {s : List UInt8} (h : s.length ≤ 1) : ∀ k m, segT k m = s → s = [] := by
  intro k m hc
  by_cases hs : s = []
  · exact hs
  obtain ⟨c, _, e, a, b⟩ := segT_open (k := k) (m := m) (by rw [hc]; exact hs)
  have hn : Lib.itoa m ≠ [] := by rw [itoa_dec a]; exact dec_ne _
  have := List.length_pos_iff.2 hn
  rw [← hc, e] at h
  simp at h
  exact absurd h hn
theorem seg_none_val {s : List UInt8} (h : ∀ k : Int, 1 ≤ k → k < 5 → segT k (valN (s.drop 1)) ≠ s) : ∀ k m, segT k m = s → s = [] := by
  intro k m hc
  by_cases hs : s = []
  · exact hs
  obtain ⟨c, hl, e, a, b⟩ := segT_open (k := k) (m := m) (by rw [hc]; exact hs)
  have hk := letL_kind hl
  refine absurd ?_ (h k (by omega) (by omega))
  rw [← hc, e, show (c :: Lib.itoa m).drop 1 = Lib.itoa m from rfl, val_itoa a b, e]
theorem segT_len' (k m : Int) : (segT k m).length ≤ 30 := by
  by_cases h : segT k m = []
  · rw [h]; simp
  · obtain ⟨c, _, e, a, b⟩ := segT_open h
    rw [e]
    have := Lib.itoa_length_le m (by omega) (by omega)
    simp; omega

end Go.Proofs.YtdjgpjejidajlaaDoor
