/-
  Lists of segments and their texts in plain Lean.
-/
import Derived.Test.YtdjgpjejidajlaaDoorSegP
import Derived.Test.YtdjgpjejidajlaaDoorTList
import Derived.Test.YtdjgpjejidajlaaDoorSplit
namespace Go.Proofs.YtdjgpjejidajlaaDoor
open Go.RowKit Go.Sort

theorem join_two (x y : List UInt8) (r : List (List UInt8)) (c : UInt8) : Lib.join (x :: y :: r) [c] = x ++ c :: Lib.join (y :: r) [c] := by
  simp [Lib.join, List.intercalate]
theorem join_snoc {c : UInt8} {x : List UInt8} : ∀ {ws : List (List UInt8)}, ws ≠ [] → Lib.join (ws ++ [x]) [c] = Lib.join ws [c] ++ [c] ++ x
  | [], h => absurd rfl h
  | [a], _ => by simp [Lib.join, List.intercalate]
  | a :: b :: r, _ => by
    have ih := join_snoc (c := c) (x := x) (ws := b :: r) (by simp)
    rw [List.cons_append, List.cons_append, join_two, ← List.cons_append, ih, join_two]
    simp
theorem join_head {c x : UInt8} {p : List UInt8} {ps : List (List UInt8)} : Lib.join ((x :: p) :: ps) [c] = x :: Lib.join (p :: ps) [c] := by
  cases ps with
  | nil => simp [Lib.join, List.intercalate]
  | cons q r => rw [join_two, join_two]; rfl
theorem split_join {c : UInt8} : ∀ {ws : List (List UInt8)}, ws ≠ [] → (∀ w ∈ ws, c ∉ w) → splitK c [] (Lib.join ws [c]) = ws
  | [], h, _ => absurd rfl h
  | [a], _, h => by rw [show Lib.join [a] [c] = a by simp [Lib.join, List.intercalate]]; exact splitK_miss (h a (by simp))
  | a :: b :: r, _, h => by
    rw [join_two, splitK_hit (h a (by simp)), split_join (by simp) (fun w hw => h w (by simp only [List.mem_cons] at hw ⊢; exact .inr hw))]
    simp
theorem join_split (c : UInt8) : ∀ s : List UInt8, Lib.join (splitK c [] s) [c] = s
  | [] => by simp [splitK, Lib.join, List.intercalate]
  | x :: r => by
    have ih := join_split c r
    by_cases h : x = c
    · subst h
      rw [splitK, if_pos rfl]
      cases hs : splitK x [] r with
      | nil => exact absurd hs (splitK_ne _ _ _)
      | cons p ps => rw [join_two, ← hs, ih]; rfl
    · rw [splitK_cons h]
      cases hs : splitK c [] r with
      | nil => exact absurd hs (splitK_ne _ _ _)
      | cons p ps => rw [hs] at ih; simp only; rw [join_head, ih]

/-- The segment with a text. -/
def pSeg (s : List UInt8) : Option (Int × Int) :=
  match s with
  | [] => none
  | c :: y => (match Lib.atoiAll y with
    | .ok v => if segT (kindL (c.toNat : Int)) v = c :: y then some (kindL (c.toNat : Int), v) else none
    | _ => none)
theorem pSeg_text {s : List UInt8} {p : Int × Int} (h : pSeg s = some p) : segT p.1 p.2 = s ∧ s ≠ [] := by
  unfold pSeg at h
  cases s with
  | nil => cases h
  | cons c y =>
    simp only at h
    cases ha : Lib.atoiAll y with
    | ok v =>
      rw [ha] at h
      simp only at h
      by_cases e : segT (kindL (c.toNat : Int)) v = c :: y
      · rw [if_pos e] at h
        injection h with h
        subst h
        exact ⟨e, by simp⟩
      · rw [if_neg e] at h; cases h
    | «syntax» => rw [ha] at h; cases h
    | range => rw [ha] at h; cases h
theorem pSeg_none {s : List UInt8} (h : pSeg s = none) : ∀ k m, segT k m = s → s = [] := by
  unfold pSeg at h
  cases s with
  | nil => intro _ _ _; rfl
  | cons c y =>
    simp only at h
    cases ha : Lib.atoiAll y with
    | ok v =>
      rw [ha] at h
      simp only at h
      by_cases e : segT (kindL (c.toNat : Int)) v = c :: y
      · rw [if_pos e] at h; cases h
      · exact seg_none_text ha e
    | «syntax» => exact seg_none_num (fun v e => by rw [ha] at e; cases e)
    | range => exact seg_none_num (fun v e => by rw [ha] at e; cases e)
theorem segR_some {s : List UInt8} {k m er : Int} {p : Int × Int} (h : SegR s k m er) (hp : pSeg s = some p) : k = p.1 ∧ m = p.2 ∧ er = 0 :=
  segR_unique h (.inl ⟨rfl, (pSeg_text hp).2, (pSeg_text hp).1⟩)
theorem segR_none {s : List UInt8} {k m er : Int} (h : SegR s k m er) (hp : pSeg s = none) : k = 0 ∧ m = 0 ∧ er = 3 :=
  segR_unique h (.inr ⟨rfl, rfl, rfl, pSeg_none hp⟩)
theorem pSeg_of {k m : Int} (h : segT k m ≠ []) : pSeg (segT k m) = some (k, m) := by
  cases hp : pSeg (segT k m) with
  | none => exact absurd (pSeg_none hp k m rfl) h
  | some p =>
    obtain ⟨h1, _⟩ := pSeg_text hp
    obtain ⟨e1, e2⟩ := segT_inj h1 (by rw [h1]; exact h)
    obtain ⟨a, b⟩ := p
    simp only at e1 e2
    rw [e1, e2]

/-- The segments with a list of texts. -/
def plL : List (List UInt8) → Option (List (Int × Int))
  | [] => some []
  | x :: r => match pSeg x, plL r with
    | some p, some l => some (p :: l)
    | _, _ => none
theorem plL_snoc {x : List UInt8} {p : Int × Int} (hx : pSeg x = some p) : ∀ {ws : List (List UInt8)} {l : List (Int × Int)}, plL ws = some l → plL (ws ++ [x]) = some (l ++ [p])
  | [], l, h => by
    injection h with h
    subst h
    simp [plL, hx]
  | a :: r, l, h => by
    unfold plL at h
    cases ha : pSeg a with
    | none => rw [ha] at h; cases h
    | some q =>
      cases hr : plL r with
      | none => rw [ha, hr] at h; cases h
      | some l' =>
        rw [ha, hr] at h
        simp only at h
        injection h with h
        subst h
        have ih := plL_snoc hx hr
        rw [List.cons_append, plL, ha, ih]
        rfl
theorem plL_bad {x : List UInt8} (hx : pSeg x = none) : ∀ {ws : List (List UInt8)}, x ∈ ws → plL ws = none
  | [], h => by cases h
  | a :: r, h => by
    rcases List.mem_cons.1 h with rfl | h
    · simp [plL, hx]
    · have ih := plL_bad hx h
      rw [plL, ih]
      cases pSeg a <;> rfl
theorem plL_len : ∀ {ws : List (List UInt8)} {l : List (Int × Int)}, plL ws = some l → l.length = ws.length
  | [], l, h => by injection h with h; subst h; rfl
  | a :: r, l, h => by
    unfold plL at h
    cases ha : pSeg a with
    | none => rw [ha] at h; cases h
    | some q =>
      cases hr : plL r with
      | none => rw [ha, hr] at h; cases h
      | some l' =>
        rw [ha, hr] at h
        simp only at h
        injection h with h
        subst h
        simp [plL_len hr]
theorem plL_texts : ∀ {ws : List (List UInt8)} {l : List (Int × Int)}, plL ws = some l → (l.map fun p => segT p.1 p.2) = ws ∧ ∀ p ∈ l, segT p.1 p.2 ≠ []
  | [], l, h => by injection h with h; subst h; exact ⟨rfl, fun p hp => by cases hp⟩
  | a :: r, l, h => by
    unfold plL at h
    cases ha : pSeg a with
    | none => rw [ha] at h; cases h
    | some q =>
      cases hr : plL r with
      | none => rw [ha, hr] at h; cases h
      | some l' =>
        rw [ha, hr] at h
        simp only at h
        injection h with h
        subst h
        obtain ⟨h1, h2⟩ := plL_texts hr
        obtain ⟨g1, g2⟩ := pSeg_text ha
        refine ⟨by simp [h1, g1], fun p hp => ?_⟩
        rcases List.mem_cons.1 hp with rfl | hp
        · rw [g1]; exact g2
        · exact h2 p hp
theorem plL_of : ∀ {l : List (Int × Int)}, (∀ p ∈ l, segT p.1 p.2 ≠ []) → plL (l.map fun p => segT p.1 p.2) = some l
  | [], _ => rfl
  | p :: r, h => by
    rw [List.map_cons, plL, pSeg_of (h p (by simp)), plL_of fun q hq => h q (by simp [hq])]

def parseL (s : List UInt8) : List (Int × Int) × Int :=
  if s = [] then ([], 0) else match plL (splitK 32 [] s) with | some l => (l, 0) | none => ([], 3)
theorem parseL_nil : parseL [] = ([], 0) := rfl
theorem parseL_some {s : List UInt8} {l : List (Int × Int)} (hs : s ≠ []) (h : plL (splitK 32 [] s) = some l) : parseL s = (l, 0) := by simp [parseL, hs, h]
theorem parseL_none {s : List UInt8} (hs : s ≠ []) (h : plL (splitK 32 [] s) = none) : parseL s = ([], 3) := by simp [parseL, hs, h]
theorem parseL_len (s : List UInt8) : (parseL s).1.length ≤ s.length + 1 := by
  unfold parseL
  split
  · simp
  · have := splitK_len 32 [] s
    split
    · rename_i l h; rw [plL_len h]; exact this
    · simp
theorem segT_space (k m : Int) : (32 : UInt8) ∉ segT k m := by
  by_cases h : segT k m = []
  · rw [h]; simp
  · obtain ⟨c, hl, e, a, b⟩ := segT_open h
    rw [e, List.mem_cons]
    rintro (h1 | h1)
    · have := letL_kind hl
      subst h1
      rcases this with ⟨_, h⟩ | ⟨_, h⟩ | ⟨_, h⟩ | ⟨_, h⟩ <;> revert h <;> decide
    · rw [itoa_dec a] at h1
      have := (dec_digits _ _ h1).1
      revert this; decide
theorem join_ne {ws : List (List UInt8)} (h : ws ≠ []) (hw : ∀ w ∈ ws, w ≠ []) : Lib.join ws [32] ≠ [] := by
  cases ws with
  | nil => exact absurd rfl h
  | cons a r =>
    cases ha : a with
    | nil => exact absurd ha (hw a (by simp))
    | cons x y => rw [join_head]; simp
/-- Back from the text of a list. -/
theorem parse_tlL (l : List (Int × Int)) : (parseL (tlL l)).2 = 0 ∧ (tlL l = [] → (parseL (tlL l)).1 = []) ∧ (tlL l ≠ [] → (parseL (tlL l)).1 = l) := by
  by_cases h : tlL l = []
  · rw [h]; exact ⟨rfl, fun _ => rfl, fun e => absurd rfl e⟩
  · have hg : ∀ p ∈ l, segT p.1 p.2 ≠ [] := by
      intro p hp hn
      refine h ?_
      unfold tlL
      rw [if_neg fun ha => ha p hp hn]
    have hl : l ≠ [] := by rintro rfl; exact h (by simp [tlL, Lib.join, List.intercalate])
    have e : plL (splitK 32 [] (tlL l)) = some l := by
      rw [tlL_good hg, split_join (by simpa using hl) (fun w hw => by obtain ⟨p, _, rfl⟩ := List.mem_map.1 hw; exact segT_space _ _)]
      exact plL_of hg
    rw [parseL_some h e]
    exact ⟨rfl, fun e => absurd e h, fun _ => rfl⟩
/-- The text of what was parsed. -/
theorem tlL_parse {s : List UInt8} (h : (parseL s).2 = 0) : tlL (parseL s).1 = s := by
  by_cases hs : s = []
  · subst hs; rw [parseL_nil]; simp [tlL, Lib.join, List.intercalate]
  · cases hp : plL (splitK 32 [] s) with
    | none => rw [parseL_none hs hp] at h; cases h
    | some l =>
      rw [parseL_some hs hp]
      obtain ⟨h1, h2⟩ := plL_texts hp
      rw [tlL_good h2, h1, join_split]

/-- What waypointref09.Split returns: the parts that a byte ends, and whether nothing follows. -/
theorem split_end {c : UInt8} (s : List UInt8) : splitK c [] (s ++ [c]) = splitK c [] s ++ [[]] := by
  induction s with
  | nil => simp [splitK]
  | cons x r ih =>
    by_cases h : x = c
    · subst h
      rw [List.cons_append, splitK, if_pos rfl, ih, splitK, if_pos rfl, List.cons_append]
    · rw [List.cons_append, splitK_cons h, splitK_cons h, ih]
      cases hs : splitK c [] r with
      | nil => exact absurd hs (splitK_ne _ _ _)
      | cons p ps => rfl

end Go.Proofs.YtdjgpjejidajlaaDoor
