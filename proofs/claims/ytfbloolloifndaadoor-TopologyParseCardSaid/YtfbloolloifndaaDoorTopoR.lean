/-
  The topology that a text means by waypointref09.Parse, in plain Lean; both parsers agree on every text.
-/
import Derived.Test.YtfbloolloifndaaDoorTopoP
import Derived.Test.YtfbloolloifndaaDoorRSplit
namespace Go.Proofs.YtfbloolloifndaaDoor
set_option linter.unusedSimpArgs false
set_option linter.unusedVariables false

def wordR (ws : List (List UInt8)) (i : Nat) : Int := valN (ws.getD i [])
def ovR (t : Topo) : Topo := if t.ov.length = 0 ∧ 1 ≤ t.n ∧ t.n ≤ 64 then { t with ov := List.replicate t.n.toNat false } else t
def markR (t : Topo) (v : Int) : Topo := if 0 ≤ v ∧ v < (t.ov.length : Int) then { t with ov := t.ov.set v.toNat true } else t
def stepR (i : Nat) (t : Topo) (ws : List (List UInt8)) : Topo :=
  if i = 0 ∧ ws.length = 2 then { t with n := wordR ws 1 }
  else if ws.length = 2 then markR (ovR t) (wordR ws 1)
  else if ws.length = 8 then { t with ls := t.ls ++ [⟨wordR ws 1, wordR ws 2, wordR ws 3, wordR ws 4, wordR ws 5, wordR ws 6, wordR ws 7⟩] }
  else t
def foldR : Nat → List (List UInt8) → Topo → Topo
  | _, [], t => t
  | i, l :: r, t => foldR (i + 1) r (stepR i t (splitK 32 [] l))
def linesR (s : List UInt8) : List (List UInt8) := (splitK 10 [] s).dropLast
def okR (s : List UInt8) : Bool := decide ((splitK 10 [] s).getLast? = some [])
def readR9 (s : List UInt8) : Topo := if okR s = true then foldR 0 (linesR s) zeroT else zeroT
def topoR (s : List UInt8) : Topo × Int := if okR s = true ∧ valid (readR9 s) = true ∧ textOf (readR9 s) = s then (readR9 s, 0) else (zeroT, 3)

theorem linesR_hit {x y : List UInt8} (h : (10 : UInt8) ∉ x) : linesR (x ++ 10 :: y) = x :: linesR y := by
  unfold linesR
  rw [splitK_hit h, List.append_nil]
  cases hy : splitK 10 [] y with
  | nil => exact absurd hy (splitK_ne _ _ _)
  | cons a b => rfl
theorem okR_hit {x y : List UInt8} (h : (10 : UInt8) ∉ x) : okR (x ++ 10 :: y) = okR y := by
  unfold okR
  rw [splitK_hit h]
  cases hy : splitK 10 [] y with
  | nil => exact absurd hy (splitK_ne _ _ _)
  | cons a b => rfl
theorem lineR_next {s : List UInt8} {xs : List Int} (hs : ∀ b ∈ s, b ≠ 10) (h : ∀ x ∈ xs, 0 ≤ x) (r : List UInt8) : linesR (lineT s xs ++ r) = (s ++ nums xs) :: linesR r ∧ okR (lineT s xs ++ r) = okR r := by
  have h10 : (10 : UInt8) ∉ s ++ nums xs := by
    intro hm
    rcases List.mem_append.1 hm with hm | hm
    · exact hs _ hm rfl
    · exact (nums_asc h _ hm).2 rfl
  rw [show lineT s xs ++ r = (s ++ nums xs) ++ 10 :: r by simp [lineT]]
  exact ⟨linesR_hit h10, okR_hit h10⟩
theorem blk_no32 {w : List UInt8} (h : Blk w) : (32 : UInt8) ∉ w := fun hm => by
  have := h _ hm
  exact absurd this (by decide)
theorem split_nums : ∀ {xs : List Int} {s : List UInt8}, (32 : UInt8) ∉ s → (∀ x ∈ xs, 0 ≤ x) → splitK 32 [] (s ++ nums xs) = s :: xs.map Lib.itoa
  | [], s, hs, _ => by rw [show nums [] = [] from rfl, List.append_nil, splitK_miss hs]; rfl
  | x :: xs, s, hs, h => by
    rw [show s ++ nums (x :: xs) = s ++ 32 :: (Lib.itoa x ++ nums xs) by simp [nums], splitK_hit hs, List.append_nil, split_nums (blk_no32 (itoa_blk (h x (by simp))).1) (fun y hy => h y (by simp [hy]))]
    rfl
theorem step_over {i : Nat} {t : Topo} {k : Int} (hi : i ≠ 0) (h0 : 0 ≤ k) (hk : k ≤ t.n - 1) (hn : t.n ≤ 64) (ho : t.ov.length = 0 ∨ (t.ov.length : Int) = t.n) : stepR i t (sOverload :: [k].map Lib.itoa) = setOv t k := by
  unfold stepR
  rw [if_neg (by simp [hi]), if_pos (by simp)]
  have hv : wordR (sOverload :: [k].map Lib.itoa) 1 = k := val_itoa h0 (by omega)
  rw [hv]
  unfold setOv ovR
  rcases ho with ho | ho
  · rw [if_pos ⟨ho, by omega, hn⟩, if_neg (by omega)]
    unfold markR
    rw [if_pos (by simp only [List.length_replicate]; omega)]
  · rw [if_neg (by omega), if_pos ho]
    unfold markR
    rw [if_pos (by omega)]
theorem ovS_len {N : Nat} {ov : List Bool} {k : Nat} (hN : ov.length = N) (hk : k ≤ N) : (ovS N ov k).length = 0 ∨ (ovS N ov k).length = N := by
  unfold ovS
  split
  · right; simp; omega
  · left; rfl
theorem foldR_ov {n : Int} {N : Nat} {ov : List Bool} (hN : ov.length = N) (hn : n = (N : Int)) (h64 : n ≤ 64) : ∀ k, k ≤ ov.length → ∀ r i, i ≠ 0 → ∃ j, j ≠ 0 ∧ foldR i (linesR (ovK ov k ++ r)) ⟨n, [], []⟩ = foldR j (linesR r) ⟨n, ovS N ov k, []⟩ ∧ okR (ovK ov k ++ r) = okR r
  | 0, _, r, i, hi => ⟨i, hi, by simp [ovK, ovS], by simp [ovK]⟩
  | k + 1, hk, r, i, hi => by
    obtain ⟨j, hj, h1, h2⟩ := foldR_ov hN hn h64 k (by omega) (ovOne ov k ++ r) i hi
    rw [ovK_succ, List.append_assoc, h1, h2]
    cases h : ov.getD k false with
    | false =>
      rw [ovS_no (by omega) hN h, show ovOne ov k = [] by unfold ovOne; rw [if_neg (by rw [h]; exact Bool.false_ne_true)], List.nil_append]
      exact ⟨j, hj, rfl, rfl⟩
    | true =>
      obtain ⟨g1, g2⟩ := lineR_next (s := sOverload) (xs := [(k : Int)]) (by decide) (by simp) r
      rw [show ovOne ov k = lineT sOverload [(k : Int)] by unfold ovOne; rw [if_pos h], g1, g2]
      refine ⟨j + 1, by omega, ?_, rfl⟩
      rw [foldR, split_nums (by decide) (by simp), step_over hj (by omega) (by simp only; omega) h64 (by have := ovS_len (k := k) hN (by omega); simp only; omega), ovS_yes (by omega) hN hn h]
theorem foldR_lk {n : Int} {o : List Bool} {ls : List Lnk} (hb : ∀ l ∈ ls, ∀ x ∈ lnkNums l, 0 ≤ x ∧ x ≤ 999999999) : ∀ k, k ≤ ls.length → ∀ r i, i ≠ 0 → ∃ j, j ≠ 0 ∧ foldR i (linesR (lkK ls k ++ r)) ⟨n, o, []⟩ = foldR j (linesR r) ⟨n, o, ls.take k⟩ ∧ okR (lkK ls k ++ r) = okR r
  | 0, _, r, i, hi => ⟨i, hi, by simp [lkK], by simp [lkK]⟩
  | k + 1, hk, r, i, hi => by
    have hl := List.getElem?_eq_getElem (show k < ls.length by omega)
    have hx := hb _ (List.getElem_mem (show k < ls.length by omega))
    obtain ⟨j, hj, h1, h2⟩ := foldR_lk (n := n) (o := o) hb k (by omega) (lineT sLink (lnkNums ls[k]) ++ r) i hi
    obtain ⟨g1, g2⟩ := lineR_next (s := sLink) (xs := lnkNums ls[k]) (by decide) (fun x h => (hx x h).1) r
    rw [lkK_succ hl, List.append_assoc, h1, h2, g1, g2]
    refine ⟨j + 1, by omega, ?_, rfl⟩
    rw [foldR, split_nums (by decide) (fun x h => (hx x h).1)]
    congr 1
    unfold stepR
    rw [if_neg (by simp [hj]), if_neg (by simp [lnkNums]), if_pos (by simp [lnkNums])]
    have hv : ∀ x ∈ lnkNums ls[k], valN (Lib.itoa x) = x := fun x h => val_itoa (hx x h).1 (hx x h).2
    simp only [lnkNums, List.mem_cons, List.not_mem_nil, or_false, forall_eq_or_imp, forall_eq] at hv
    obtain ⟨a1, a2, a3, a4, a5, a6, a7⟩ := hv
    simp [wordR, lnkNums, a1, a2, a3, a4, a5, a6, a7]
    rw [List.take_succ_eq_append_getElem (show k < ls.length by omega)]
theorem foldR_text {t : Topo} (hv : valid t = true) : okR (textOf t) = true ∧ foldR 0 (linesR (textOf t)) zeroT = normT t := by
  obtain ⟨h1, h2, h3, h4, h5⟩ := valid_parts hv
  have hb : ∀ l ∈ t.ls, ∀ x ∈ lnkNums l, 0 ≤ x ∧ x ≤ 999999999 := fun l hl => lnk_nn h2 (h5 l hl)
  unfold textOf
  rw [List.append_assoc]
  obtain ⟨g1, g2⟩ := lineR_next (s := sNodes) (xs := [t.n]) (by decide) (by simp; omega) (ovK t.ov t.ov.length ++ lkK t.ls t.ls.length)
  rw [g1, g2, foldR, split_nums (by decide) (by simp; omega)]
  have hs : stepR 0 zeroT (sNodes :: [t.n].map Lib.itoa) = ⟨t.n, [], []⟩ := by
    unfold stepR
    rw [if_pos ⟨rfl, rfl⟩]
    have : wordR (sNodes :: [t.n].map Lib.itoa) 1 = t.n := val_itoa (by omega) (by omega)
    rw [this]; rfl
  rw [hs]
  rcases h4 with h4 | h4
  · have ho : t.ov = [] := List.eq_nil_of_length_eq_zero h4
    obtain ⟨j, _, e1, e2⟩ := foldR_lk (n := t.n) (o := []) hb t.ls.length (Nat.le_refl _) [] 1 (by decide)
    rw [List.append_nil] at e1 e2
    rw [ho]
    show okR ([] ++ lkK t.ls t.ls.length) = true ∧ foldR 1 (linesR ([] ++ lkK t.ls t.ls.length)) ⟨t.n, [], []⟩ = _
    rw [List.nil_append, e1, e2, List.take_length]
    exact ⟨rfl, by simp [linesR, splitK, foldR, normT, ho]⟩
  · obtain ⟨j, hj, e1, e2⟩ := foldR_ov (N := t.ov.length) rfl h4.symm h2 t.ov.length (Nat.le_refl _) (lkK t.ls t.ls.length) 1 (by decide)
    obtain ⟨j2, _, e3, e4⟩ := foldR_lk (n := t.n) (o := ovS t.ov.length t.ov t.ov.length) hb t.ls.length (Nat.le_refl _) [] j hj
    rw [List.append_nil] at e3 e4
    rw [e1, e2, e3, e4, List.take_length]
    exact ⟨rfl, by simp [linesR, splitK, foldR, normT, ovS]⟩
/-- Both parsers agree. -/
theorem topo_same (s : List UInt8) : topoP s = topoR s := by
  by_cases h : okR s = true ∧ valid (readR9 s) = true ∧ textOf (readR9 s) = s
  · obtain ⟨h1, h2, h3⟩ := h
    have hf := fold_text h2
    have hr := foldR_text h2
    rw [h3] at hf hr
    have hu : readR9 s = normT (readR9 s) := by
      conv => lhs; unfold readR9
      rw [if_pos h1]; exact hr.2
    rw [← hu] at hf
    unfold topoP topoR
    rw [hf, if_pos ⟨h1, h2, h3⟩]
    simp only [h2, h3, and_self, if_true]
  · unfold topoR
    rw [if_neg h]
    unfold topoP
    cases hf : foldT (linesK s) zeroT with
    | none => rfl
    | some t =>
      simp only
      rw [if_neg]
      rintro ⟨hv, ht⟩
      have h1 := fold_text hv
      have h2 := foldR_text hv
      rw [ht] at h1 h2
      rw [hf] at h1
      injection h1 with h1
      have hu : readR9 s = t := by unfold readR9; rw [if_pos h2.1, h2.2]; exact h1.symm
      exact h ⟨h2.1, by rw [hu]; exact hv, by rw [hu]; exact ht⟩

end Go.Proofs.YtfbloolloifndaaDoor
