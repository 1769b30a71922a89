/-
  The trace with a text, in plain Lean: what trace.Parse and waypointref55.Parse return.
-/
import Derived.Test.YtjcnjnonhncelaaDoorPar
import Derived.Test.YtjcnjnonhncelaaDoorTr
import Derived.Test.YtjcnjnonhncelaaDoorSplit
import Derived.Lib.Strings
namespace Go.Proofs.YtjcnjnonhncelaaDoor
set_option linter.unusedSimpArgs false
set_option linter.unusedVariables false

/-- Is an event earlier than the last one of a list? -/
def late (l : List Ev) (e : Ev) : Bool := match l.getLast? with | some d => decide (e.t < d.t) | none => false
/-- The list behind one more part of the text, if that is a good one. -/
def stepT (l : List Ev) (p : List UInt8) : Option (List Ev) :=
  if Lib.hasSuffix p [10] = true then (match rdE (Lib.trimSuffix p [10]) with | some e => if late l e = true then none else some (l ++ [e]) | none => none) else none
/-- What is returned, from the parts that are left and the events so far. -/
def goT : List (List UInt8) → List Ev → List Ev × Int × Int
  | [], l => (l, 0, 0)
  | p :: r, l => if p = [] then (l, 0, 0) else match stepT l p with | some l' => goT r l' | none => ([], (l.length : Int) + 1, 3)
def parseT (s : List UInt8) : List Ev × Int × Int := goT (splitK 10 [10] s) []

theorem goT_stop {r : List (List UInt8)} {l : List Ev} : goT ([] :: r) l = (l, 0, 0) := by simp [goT]
theorem goT_bad {p : List UInt8} {r : List (List UInt8)} {l : List Ev} (hp : p ≠ []) (h : stepT l p = none) : goT (p :: r) l = ([], (l.length : Int) + 1, 3) := by simp [goT, hp, h]
theorem goT_good {p : List UInt8} {r : List (List UInt8)} {l l' : List Ev} (hp : p ≠ []) (h : stepT l p = some l') : goT (p :: r) l = goT r l' := by simp [goT, hp, h]
theorem suff_hit (x : List UInt8) : Lib.hasSuffix (x ++ [10]) [10] = true ∧ Lib.trimSuffix (x ++ [10]) [10] = x := by
  have h : Lib.hasSuffix (x ++ [10]) [10] = true := by
    unfold Lib.hasSuffix
    rw [List.isSuffixOf_iff_suffix]
    exact ⟨x, rfl⟩
  refine ⟨h, ?_⟩
  unfold Lib.trimSuffix
  rw [if_pos h]
  simp
theorem suff_miss {x : List UInt8} (h : (10 : UInt8) ∉ x) : Lib.hasSuffix x [10] = false := by
  cases hs : Lib.hasSuffix x [10] with
  | false => rfl
  | true =>
    unfold Lib.hasSuffix at hs
    rw [List.isSuffixOf_iff_suffix] at hs
    obtain ⟨y, rfl⟩ := hs
    simp at h
theorem stepT_no {l : List Ev} {p : List UInt8} (h : Lib.hasSuffix p [10] = false) : stepT l p = none := by simp [stepT, h]
theorem stepT_bad {l : List Ev} {p : List UInt8} (h : rdE (Lib.trimSuffix p [10]) = none) : stepT l p = none := by
  unfold stepT; split
  · rw [h]
  · rfl
theorem stepT_late {l : List Ev} {p : List UInt8} {e : Ev} (h : rdE (Lib.trimSuffix p [10]) = some e) (hl : late l e = true) : stepT l p = none := by
  unfold stepT; split
  · rw [h]; simp [hl]
  · rfl
theorem stepT_good {l : List Ev} {p : List UInt8} {e : Ev} (hs : Lib.hasSuffix p [10] = true) (h : rdE (Lib.trimSuffix p [10]) = some e) (hl : late l e = false) : stepT l p = some (l ++ [e]) := by
  unfold stepT; rw [if_pos hs, h]; simp [hl]
theorem late_nil (e : Ev) : late [] e = false := rfl
theorem late_last {l : List Ev} {k : Nat} {d : Ev} (hl : l.length = k + 1) (h : l[k]? = some d) (e : Ev) : late l e = decide (e.t < d.t) := by
  unfold late
  rw [List.getLast?_eq_getElem?, hl, Nat.add_sub_cancel, h]

/-! The text of a trace is parsed into it; what is parsed is a trace with that text. -/
theorem trOk_snoc {l : List Ev} {e : Ev} : trOk (l ++ [e]) = true ↔ trOk l = true ∧ evOk e = true ∧ late l e = false := by
  have hlast : (l ++ [e])[l.length]? = some e := by simp
  have hold : ∀ k, k < l.length → goodE (l ++ [e]) k = goodE l k := fun k hk => by
    unfold goodE
    rw [List.getD_eq_getElem?_getD, List.getD_eq_getElem?_getD, List.getElem?_append_left hk, List.getElem?_append_left (by omega), ← List.getD_eq_getElem?_getD, ← List.getD_eq_getElem?_getD]
  have hnew : goodE (l ++ [e]) l.length = (evOk e && !late l e) := by
    cases hl : l.length with
    | zero =>
      obtain rfl : l = [] := List.eq_nil_of_length_eq_zero hl
      simp [goodE, late]
    | succ k =>
      have hd : l[k]? = some l[k] := List.getElem?_eq_getElem (by omega)
      rw [late_last hl hd]
      unfold goodE
      rw [hl] at hlast
      rw [getD_at hlast, Nat.add_sub_cancel, getD_at (show (l ++ [e])[k]? = some l[k] by rw [List.getElem?_append_left (by omega)]; exact hd)]
      simp
  constructor
  · intro h
    refine ⟨trOk_of fun k hk => ?_, ?_⟩
    · rw [← hold k hk]; exact trOk_at h (by simp; omega)
    · have := trOk_at h (k := l.length) (by simp)
      rw [hnew] at this
      simpa using this
  · rintro ⟨h1, h2, h3⟩
    refine trOk_of fun k hk => ?_
    by_cases e' : k < l.length
    · rw [hold k e']; exact trOk_at h1 e'
    · obtain rfl : k = l.length := by simp at hk; omega
      rw [hnew, h2, h3]; rfl
theorem trOk_left {l m : List Ev} (h : trOk (l ++ m) = true) : trOk l = true := by
  refine trOk_of fun k hk => ?_
  have := trOk_at h (k := k) (by simp; omega)
  unfold goodE at this ⊢
  rw [List.getD_eq_getElem?_getD, List.getD_eq_getElem?_getD, List.getElem?_append_left hk, List.getElem?_append_left (by omega), ← List.getD_eq_getElem?_getD, ← List.getD_eq_getElem?_getD] at this
  exact this
theorem split_line {x y : List UInt8} (h : (10 : UInt8) ∉ x) : splitK 10 [10] (x ++ 10 :: y) = (x ++ [10]) :: splitK 10 [10] y := splitK_hit h
theorem itoa_no10 (n : Int) : (10 : UInt8) ∉ Lib.itoa n := by
  intro h
  unfold Lib.itoa at h
  split at h
  · simp only [List.mem_cons] at h
    rcases h with h | h
    · exact absurd h (by decide)
    · have := dec_digits _ _ h
      exact absurd this.1 (by decide)
  · have := dec_digits _ _ h
    exact absurd this.1 (by decide)
theorem nm_no10 (l : List (List UInt8)) (hl : l.all (fun x => decide ((10 : UInt8) ∉ x)) = true) (i : Int) : (10 : UInt8) ∉ nmL l i := by
  unfold nmL
  rw [List.getD_eq_getElem?_getD]
  cases h : l[i.toNat]? with
  | none => simp
  | some x =>
    have := List.all_eq_true.1 hl x (List.mem_of_getElem? h)
    simpa using this
theorem evT_no10 (e : Ev) : (10 : UInt8) ∉ evT e := by
  have g1 := nm_no10 verbsL (by decide) e.k
  have g2 := nm_no10 reasonsL (by decide) e.r
  have g3 := nm_no10 componentsL (by decide) e.a
  have g4 := nm_no10 changesL (by decide) e.r
  have g5 := nm_no10 statesL (by decide) e.r
  have h := itoa_no10
  unfold evT evWs wsT
  repeat' split
  all_goals simp [h, g1, g2, g3, g4, g5]
theorem trT_cons (e : Ev) (l : List Ev) : trT (e :: l) = evT e ++ 10 :: trT l := by simp [trT]
theorem trT_app (l m : List Ev) : trT (l ++ m) = trT l ++ trT m := by simp [trT]
/-- From the events acc on: parsing the text of l gives both. -/
theorem goT_trT : ∀ (l acc : List Ev), trOk (acc ++ l) = true → goT (splitK 10 [10] (trT l)) acc = (acc ++ l, 0, 0)
  | [], acc, _ => by simp [trT, splitK, goT]
  | e :: l, acc, h => by
    have h2 : trOk (acc ++ [e] ++ l) = true := by simpa using h
    obtain ⟨_, he, hl⟩ := trOk_snoc.1 (trOk_left h2)
    rw [trT_cons, split_line (evT_no10 e)]
    obtain ⟨s1, s2⟩ := suff_hit (evT e)
    rw [goT_good (by simp) (stepT_good s1 (by rw [s2]; exact rdE_some.2 ⟨he, rfl⟩) hl), goT_trT l (acc ++ [e]) h2]
    simp
theorem parse_trT {l : List Ev} (h : trOk l = true) : parseT (trT l) = (l, 0, 0) := goT_trT l [] (by simpa using h)
theorem trOk_nil : trOk [] = true := rfl
theorem goT_text : ∀ (n : Nat) (s : List UInt8), s.length ≤ n → ∀ acc, trOk acc = true → (goT (splitK 10 [10] s) acc).2.2 = 0 → trOk (goT (splitK 10 [10] s) acc).1 = true ∧ trT (goT (splitK 10 [10] s) acc).1 = trT acc ++ s := by
  intro n
  induction n with
  | zero =>
    intro s hs acc ha _
    obtain rfl : s = [] := List.eq_nil_of_length_eq_zero (by omega)
    simp [splitK, goT, ha]
  | succ n ih =>
    intro s hs acc ha h0
    by_cases hm : (10 : UInt8) ∈ s
    · obtain ⟨x, y, rfl, hx⟩ := indexByte_some hm
      rw [split_line hx] at h0 ⊢
      obtain ⟨s1, s2⟩ := suff_hit x
      cases hr : rdE x with
      | none =>
        rw [goT_bad (by simp) (stepT_bad (by rw [s2]; exact hr))] at h0
        cases h0
      | some e =>
        cases hl : late acc e with
        | true =>
          rw [goT_bad (by simp) (stepT_late (by rw [s2]; exact hr) hl)] at h0
          cases h0
        | false =>
          have hg := stepT_good s1 (by rw [s2]; exact hr) hl
          rw [goT_good (by simp) hg] at h0 ⊢
          obtain ⟨he, hx'⟩ := rdE_some.1 hr
          obtain ⟨r1, r2⟩ := ih y (by simp at hs; omega) (acc ++ [e]) (trOk_snoc.2 ⟨ha, he, hl⟩) h0
          refine ⟨r1, ?_⟩
          rw [r2, trT_app, ← hx']
          simp [trT]
    · rw [splitK_miss hm] at h0 ⊢
      by_cases hn : s = []
      · subst hn; rw [goT_stop] at h0 ⊢; exact ⟨ha, by simp⟩
      · rw [goT_bad hn (stepT_no (suff_miss hm))] at h0
        cases h0
theorem parse_text {s : List UInt8} (h : (parseT s).2.2 = 0) : trOk (parseT s).1 = true ∧ trT (parseT s).1 = s := by
  have := goT_text s.length s (Nat.le_refl _) [] trOk_nil h
  simpa [trT, parseT] using this
/-- The two ways to end. -/
theorem goT_ends : ∀ (ps : List (List UInt8)) (l : List Ev), ((goT ps l).2.2 = 0 ∧ (goT ps l).2.1 = 0) ∨ ((goT ps l).2.2 = 3 ∧ (goT ps l).1 = [] ∧ 0 < (goT ps l).2.1)
  | [], l => .inl ⟨rfl, rfl⟩
  | p :: r, l => by
    by_cases hp : p = []
    · subst hp; rw [goT_stop]; exact .inl ⟨rfl, rfl⟩
    · cases h : stepT l p with
      | none => rw [goT_bad hp h]; exact .inr ⟨rfl, rfl, by show (0 : Int) < _; simp only; omega⟩
      | some l' => rw [goT_good hp h]; exact goT_ends r l'
theorem goT_len : ∀ (ps : List (List UInt8)) (l : List Ev), (goT ps l).1.length ≤ l.length + ps.length
  | [], l => by simp [goT]
  | p :: r, l => by
    by_cases hp : p = []
    · subst hp; rw [goT_stop]; simp
    · cases h : stepT l p with
      | none => rw [goT_bad hp h]; simp
      | some l' =>
        rw [goT_good hp h]
        have h1 := goT_len r l'
        have h2 : l'.length = l.length + 1 := by
          unfold stepT at h
          split at h
          · split at h
            · split at h
              · cases h
              · injection h with h; subst h; simp
            · cases h
          · cases h
        simp only [List.length_cons]; omega

end Go.Proofs.YtjcnjnonhncelaaDoor
