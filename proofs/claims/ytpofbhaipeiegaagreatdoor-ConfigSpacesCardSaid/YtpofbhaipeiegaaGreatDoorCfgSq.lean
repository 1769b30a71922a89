/-
  Comments, empty lines and additional spaces and tabs change nothing but the numbers of lines (plain).
-/
import Derived.Test.YtpofbhaipeiegaaGreatDoorCfgFi
import Derived.Test.YtpofbhaipeiegaaGreatDoorCutS
import Derived.Test.YtpofbhaipeiegaaGreatDoorOpen
import Derived.Shelf.Strings.Replace
namespace Go.Proofs.YtpofbhaipeiegaaGreatDoor
set_option linter.unusedSimpArgs false
set_option linter.unusedVariables false
open Go.RowKit Go.Shelf Go.Sort

/-- A line without words. -/
def noiL : List UInt8 := [32, 9, 35, 32, 102, 114, 111, 109, 32, 99, 111, 115, 116, 32, 61, 32, 40]
/-- A comment. -/
def comL : List UInt8 := [9, 35, 32, 99, 111, 109, 109, 101, 110, 116, 32, 35, 32, 97, 103, 97, 105, 110]
/-- More spaces. -/
def replL : List UInt8 → List UInt8
  | [] => []
  | c :: r => if c = 32 then 32 :: 9 :: 32 :: replL r else c :: replL r
def spcA (b : Bool) (l : List UInt8) : List UInt8 := if b then [9, 32] ++ replL l else l
def spcC (b : Bool) (l : List UInt8) : List UInt8 := if b then l ++ comL else l
def spcLine (k : Nat) (l : List UInt8) : List UInt8 := spcC (k.testBit 2) (spcA (k.testBit 1) l)
/-- The new lines. -/
def spL : List Nat → List (List UInt8) → List (List UInt8)
  | _, [] => []
  | ks, l :: r => (if (ks.headD 0).testBit 0 then [noiL] else []) ++ spcLine (ks.headD 0) l :: spL ks.tail r
def unlines : List (List UInt8) → List UInt8
  | [] => []
  | l :: r => l ++ 10 :: unlines r
def addN (ks : List Nat) (n : Nat) : Nat := ((ks.take n).filter fun k => k.testBit 0).length

theorem replL_len : ∀ l, (replL l).length ≤ 3 * l.length
  | [] => Nat.le_refl _
  | c :: r => by
    have := replL_len r
    unfold replL
    split <;> simp <;> omega
theorem spcLine_len (k : Nat) (l : List UInt8) : (spcLine k l).length ≤ 3 * l.length + 20 := by
  have := replL_len l
  unfold spcLine spcC spcA
  split <;> split <;> simp [comL] <;> omega
theorem wordsK_repl : ∀ (l u : List UInt8), wordsK u (replL l) = wordsK u l
  | [], _ => rfl
  | c :: r, u => by
    unfold replL
    split
    · rename_i h
      subst h
      simp [wordsK, symB, spcB, wordsK_repl r]
    · rw [wordsK, wordsK, wordsK_repl r, wordsK_repl r]
theorem cutA_repl : ∀ (l : List UInt8), (cutA 35 (replL l)).1 = replL (cutA 35 l).1
  | [] => rfl
  | c :: r => by
    have ih := cutA_repl r
    unfold replL
    split
    · rename_i h
      subst h
      simp [cutA, ih, replL]
    · rename_i h
      by_cases h2 : c = 35
      · subst h2; simp [cutA, replL]
      · simp [cutA, h2, ih, replL, h]
theorem cutA_app : ∀ (l m : List UInt8), (cutA 35 (l ++ m)).1 = if 35 ∈ l then (cutA 35 l).1 else l ++ (cutA 35 m).1
  | [], m => by simp
  | c :: r, m => by
    have ih := cutA_app r m
    by_cases h2 : c = 35
    · subst h2; simp [cutA]
    · have h3 : ¬ 35 = c := fun e => h2 e.symm
      simp only [List.cons_append, cutA, h2, if_false, ih, List.mem_cons, h3, false_or]
      split <;> rfl
theorem wordsK_tab : ∀ (l u : List UInt8), wordsK u (l ++ [9]) = wordsK u l
  | [], u => by
    simp [wordsK, symB, spcB]
  | c :: r, u => by
    rw [List.cons_append, wordsK, wordsK, wordsK_tab r, wordsK_tab r]
theorem words_spcA (b : Bool) (l : List UInt8) : wordsS (spcA b l) = wordsS l := by
  unfold spcA
  cases b
  · rfl
  · simp only [if_true]
    unfold wordsS
    rw [show ([9, 32] : List UInt8) ++ replL l = 9 :: 32 :: replL l from rfl]
    simp only [cutA, show ¬ (9 : UInt8) = 35 by decide, show ¬ (32 : UInt8) = 35 by decide, if_false, cutA_repl]
    rw [wordsK, wordsK]
    simp [symB, spcB, wordsK_repl]
theorem words_spcC (b : Bool) (l : List UInt8) : wordsS (spcC b l) = wordsS l := by
  unfold spcC
  cases b
  · rfl
  · simp only [if_true]
    unfold wordsS
    rw [cutA_app]
    split
    · rfl
    · rename_i h
      rw [cutA_miss h, show (cutA 35 comL).1 = [9] by rfl, wordsK_tab]
theorem words_spc (k : Nat) (l : List UInt8) : wordsS (spcLine k l) = wordsS l := by
  unfold spcLine
  rw [words_spcC, words_spcA]
theorem words_noi : wordsS noiL = [] := by rfl
theorem words_nil : wordsS [] = [] := by rfl

theorem addN_succ (ks : List Nat) (n : Nat) : addN ks (n + 1) = (if (ks.headD 0).testBit 0 then 1 else 0) + addN ks.tail n := by
  unfold addN
  cases ks with
  | nil => simp
  | cons k r =>
    show (((k :: r).take (n + 1)).filter fun k => k.testBit 0).length = (if k.testBit 0 = true then 1 else 0) + ((r.take n).filter fun k => k.testBit 0).length
    rw [List.take_succ_cons, List.filter_cons]
    by_cases hb : k.testBit 0 = true
    · rw [if_pos hb, if_pos hb, List.length_cons]; omega
    · rw [if_neg hb, if_neg hb]; omega
/-- What the new lines mean. -/
theorem parseL_sp : ∀ (ps : List (List UInt8)) (ks : List Nat) (k k' : Nat) (c : Cf), parseL (spL ks ps ++ [[]]) k' c = (match parseL ps k c with
    | .ok d => .ok d
    | .error (m, x) => .error (k' + (m - k) + addN ks (m - k), x))
  | [], ks, k, k', c => by
    rw [spL, List.nil_append, parseL_skip words_nil]
    rfl
  | l :: r, ks, k, k', c => by
    rw [spL, List.append_assoc, List.cons_append]
    obtain ⟨a, ha, hs⟩ : ∃ a, a = (if (ks.headD 0).testBit 0 then 1 else 0) ∧ parseL ((if (ks.headD 0).testBit 0 then [noiL] else []) ++ spcLine (ks.headD 0) l :: (spL ks.tail r ++ [[]])) k' c = parseL (spcLine (ks.headD 0) l :: (spL ks.tail r ++ [[]])) (k' + a) c := by
      refine ⟨_, rfl, ?_⟩
      split
      · rw [List.singleton_append, parseL_skip words_noi]
      · rfl
    rw [hs]
    have W := words_spc (ks.headD 0) l
    have hone : addN ks 1 = a := by rw [addN_succ ks 0, ← ha]; simp [addN]
    have ERR : ∀ (x : Int), (Except.error (k' + a + 1, x) : Except (Nat × Int) Cf) = .error (k' + (k + 1 - k) + addN ks (k + 1 - k), x) := fun x => by
      rw [show k + 1 - k = 1 by omega, hone]
      congr 2
      omega
    by_cases hw : wordsS l = []
    · rw [parseL_skip (W.trans hw), parseL_skip hw, parseL_sp r ks.tail (k + 1) _ c]
      cases hp : parseL r (k + 1) c with
      | ok d => rfl
      | error p =>
        obtain ⟨m, x⟩ := p
        have hm := (parseL_err r (k + 1) c m x hp).1
        simp only
        rw [show m - k = (m - (k + 1)) + 1 by omega, addN_succ, ← ha]
        congr 2
        omega
    · have hw2 : ¬ wordsS (spcLine (ks.headD 0) l) = [] := by rw [W]; exact hw
      cases hd : lineS true c (wordsS l) with
      | error e =>
        rw [parseL_e1 hw hd, parseL_e1 hw2 (by rw [W]; exact hd)]
        exact ERR e
      | ok c1 =>
        cases hn : lineS false c (wordsS l) with
        | error e =>
          rw [parseL_e2 hw hd hn, parseL_e2 hw2 (by rw [W]; exact hd) (by rw [W]; exact hn)]
          exact ERR e
        | ok c2 =>
          rw [parseL_go hw hd hn, parseL_go hw2 (by rw [W]; exact hd) (by rw [W]; exact hn), parseL_sp r ks.tail (k + 1) _ c2]
          cases hp : parseL r (k + 1) c2 with
          | ok d => rfl
          | error p =>
            obtain ⟨m, x⟩ := p
            have hm := (parseL_err r (k + 1) c2 m x hp).1
            simp only
            rw [show m - k = (m - (k + 1)) + 1 by omega, addN_succ, ← ha]
            congr 2
            omega
theorem no10_repl : ∀ (l : List UInt8), 10 ∉ l → 10 ∉ replL l
  | [], h => h
  | c :: r, h => by
    have h1 : ¬ (10 : UInt8) = c := fun e => h (by simp [e])
    have h2 := no10_repl r (fun e => h (by simp [e]))
    unfold replL
    split
    · simp [h2]
    · simp [h1, h2]
theorem no10_spc (k : Nat) {l : List UInt8} (h : 10 ∉ l) : 10 ∉ spcLine k l := by
  have h2 := no10_repl l h
  unfold spcLine spcC spcA
  split <;> split <;> simp [h, h2, comL]
theorem splitK_unlines : ∀ (ls : List (List UInt8)), (∀ l ∈ ls, 10 ∉ l) → splitK 10 [] (unlines ls) = ls ++ [[]]
  | [], _ => rfl
  | l :: r, h => by
    rw [unlines, splitK_hit (h l (by simp)), splitK_unlines r (fun x hx => h x (by simp [hx])), List.append_nil]
    rfl
theorem spL_no10 : ∀ (ps : List (List UInt8)) (ks : List Nat), (∀ l ∈ ps, 10 ∉ l) → ∀ l ∈ spL ks ps, 10 ∉ l
  | [], ks, _, l, hl => by simp [spL] at hl
  | p :: r, ks, h, l, hl => by
    rw [spL] at hl
    rcases List.mem_append.1 hl with hl | hl
    · split at hl
      · simp at hl; subst hl; decide
      · cases hl
    · rcases List.mem_cons.1 hl with rfl | hl
      · exact no10_spc _ (h p (by simp))
      · exact spL_no10 r ks.tail (fun x hx => h x (by simp [hx])) l hl
theorem spL_len : ∀ (ps : List (List UInt8)) (ks : List Nat) (M : Nat), (∀ l ∈ ps, l.length ≤ M) → ∀ l ∈ spL ks ps, l.length ≤ 3 * M + 20
  | [], ks, M, _, l, hl => by simp [spL] at hl
  | p :: r, ks, M, h, l, hl => by
    rw [spL] at hl
    rcases List.mem_append.1 hl with hl | hl
    · split at hl
      · simp at hl; subst hl; simp [noiL]
      · cases hl
    · rcases List.mem_cons.1 hl with rfl | hl
      · have := spcLine_len (ks.headD 0) p
        have := h p (by simp)
        omega
      · exact spL_len r ks.tail M (fun x hx => h x (by simp [hx])) l hl
theorem unlines_app : ∀ (a b : List (List UInt8)), unlines (a ++ b) = unlines a ++ unlines b
  | [], b => rfl
  | x :: r, b => by rw [List.cons_append, unlines, unlines, unlines_app r b]; simp
/-- The length of the new text. -/
theorem unlines_len : ∀ (ps : List (List UInt8)) (ks : List Nat), (unlines (spL ks ps)).length ≤ 3 * (ps.map List.length).sum + ps.length + 38 * ks.length
  | [], ks => by simp [spL, unlines]
  | p :: r, [] => by
    have h1 := unlines_len r []
    rw [spL, unlines_app, unlines]
    have h2 : spcLine 0 p = p := by simp [spcLine, spcC, spcA]
    simp only [List.headD_nil, List.tail_nil, Nat.zero_testBit, Bool.false_eq_true, if_false, unlines, List.nil_append, h2, List.length_append, List.length_cons, List.map_cons, List.sum_cons, List.length_nil] at h1 ⊢
    omega
  | p :: r, k :: q => by
    have h1 := unlines_len r q
    have h2 := spcLine_len k p
    rw [spL, unlines_app, unlines]
    have h3 : (unlines (if ((k :: q).headD 0).testBit 0 then [noiL] else [])).length ≤ 18 := by
      split
      · simp [unlines, noiL]
      · simp [unlines]
    simp only [List.headD_cons, List.tail_cons, List.length_append, List.length_cons, List.map_cons, List.sum_cons] at h1 h3 ⊢
    omega
theorem splitK_sum : ∀ (s : List UInt8), ((splitK 10 [] s).map List.length).sum + (splitK 10 [] s).length = s.length + 1
  | [] => rfl
  | x :: r => by
    have ih := splitK_sum r
    by_cases h : x = 10
    · subst h
      rw [splitK, if_pos rfl]
      simp
      omega
    · rw [splitK_cons h]
      cases hs : splitK 10 [] r with
      | nil => exact absurd hs (splitK_ne _ _ _)
      | cons p q =>
        rw [hs] at ih
        simp at ih ⊢
        omega
/-- The law. -/
theorem spaces_plain (s : List UInt8) (ks : List Nat) : parseC (unlines (spL ks (splitK 10 [] s))) = (match parseC s with
    | .ok d => .ok d
    | .error (m, x) => .error (m + addN ks m, x)) := by
  have hno := splitK_no 10 _ s (Nat.le_refl _)
  rw [parseC_eq, parseC_eq, splitK_unlines _ (spL_no10 _ ks hno), parseL_sp _ ks 0 0 c0]
  cases parseL (splitK 10 [] s) 0 c0 with
  | ok d =>
    simp only [finC]
    split
    · simp [addN]
    · rfl
  | error p =>
    obtain ⟨m, x⟩ := p
    simp [finC]

theorem replL_miss : ∀ {x : List UInt8}, 32 ∉ x → replL x = x
  | [], _ => rfl
  | c :: r, h => by
    have h1 : ¬ c = 32 := fun e => h (by simp [e])
    rw [replL, if_neg h1, replL_miss fun e => h (by simp [e])]
theorem replL_app : ∀ (x y : List UInt8), replL (x ++ y) = replL x ++ replL y
  | [], y => rfl
  | c :: r, y => by
    rw [List.cons_append, replL, replL, replL_app r y]
    split <;> rfl
theorem replK : ∀ (n : Nat) (s : List UInt8), s.length ≤ n → Lib.replaceK [32] [32, 9, 32] (s.count 32) s = replL s := by
  intro n
  induction n with
  | zero =>
    intro s hs
    obtain rfl : s = [] := List.eq_nil_of_length_eq_zero (by omega)
    rfl
  | succ n ih =>
    intro s hs
    by_cases hc : (32 : UInt8) ∈ s
    · obtain ⟨x, y, rfl, hx⟩ := indexByte_some hc
      have hi : Lib.index (x ++ 32 :: y) [32] = (x.length : Int) := by
        rw [Lib.index_one]
        exact indexByte_at hx
      have hn : (x ++ 32 :: y).count 32 = y.count 32 + 1 := by
        rw [List.count_append, List.count_eq_zero_of_not_mem hx, List.count_cons_self]
        omega
      rw [hn, Lib.replaceK_hit _ _ _ _ _ hi, replL_app, replL_miss hx]
      have e1 : (x ++ 32 :: y).drop (x.length + [(32 : UInt8)].length) = y := by
        rw [← List.drop_drop, List.drop_left]
        rfl
      rw [e1, ih y (by simp at hs; omega), List.take_left]
      simp [replL]
    · rw [List.count_eq_zero_of_not_mem hc, replL_miss hc]
      rfl
theorem replAll (s : List UInt8) : Lib.replaceAll s [32] [32, 9, 32] = replL s := by
  unfold Lib.replaceAll Lib.replace
  rw [if_neg (by decide), ← replK _ s (Nat.le_refl _)]
  unfold Lib.replaceNum
  rw [if_pos (.inl (by decide)), Lib.count_one]
theorem strings_Replace1 (l : List UInt8) (hl : l.length ≤ 100000) (m : Int) (w : World) (hm : w.cell? ⟨0, 0, none⟩ = some (.int .i64 m)) :
    Calls Tryz.prog 15 #[.string ⟨l.toArray⟩, .string ⟨#[32]⟩, .string ⟨#[32, 9, 32]⟩] w fun e w' => e = .returned (.string ⟨(replL l).toArray⟩) ∧ Below w.heap.size w w' := by
  have hss : (⟨l.toArray⟩ : ByteArray).size = l.length := by simp [ByteArray.size]
  have h1 : 1 ≤ (⟨#[32]⟩ : ByteArray).size := Nat.le_refl 1
  have hle := Lib.countB_le ⟨#[32]⟩ h1 _ (⟨l.toArray⟩ : ByteArray) (Nat.le_refl _)
  have h3 : (⟨#[32, 9, 32]⟩ : ByteArray).size = 3 := rfl
  have h := Tryz.strings_ReplaceAll ⟨l.toArray⟩ ⟨#[32]⟩ ⟨#[32, 9, 32]⟩ m w (by rw [hss]; omega) hm h1 (by
    rw [h3]
    generalize Lib.countB (⟨l.toArray⟩ : ByteArray) ⟨#[32]⟩ = q at *
    generalize (⟨l.toArray⟩ : ByteArray).size = z at *
    omega)
  rw [show (⟨l.toArray⟩ : ByteArray).data.toList = l by simp, show (⟨#[32]⟩ : ByteArray).data.toList = [32] from rfl, show (⟨#[32, 9, 32]⟩ : ByteArray).data.toList = [32, 9, 32] from rfl, replAll] at h
  exact h

section
open Go.ChangeShapes Go.WideShapes Go.ChangeAt Go.RowKit Go.Deep Go.Joins Go.OpenShut
variable {H : Type} {enc : TypeId × Value → H} {w : World} {base : Nat} {spare : Nat → Bool} {held : Bool}
theorem cells8 : Tryz.prog.cellsOf 5 = 1 := by kernel_rfl
set_option maxRecDepth 100000 in
/-- A list of bytes that came in. -/
theorem open_u8s {r : Reach} {b0 : Nat} {v : Value} {d : DataW H} {p : List MemPlace} (hv : Value.okWide Tryz.prog w r b0 45 v) (h : DataW.Trod enc Tryz.prog w base spare held 45 v d p) :
    ∃ (A : Option Addr) (cap : Nat) (xs : List Int), v = .slice A xs.length cap ∧ xs.length ≤ cap ∧ cap ≤ maxLen ∧ (∀ x ∈ xs, 0 ≤ x ∧ x ≤ 255) ∧ Rd w A (xs.map (Value.int .u8)) := by
  obtain ⟨A, l, c, rfl⟩ := okWide_slice Tryz.underlying45 hv
  obtain ⟨fuel, hf⟩ := h
  obtain ⟨A', cap, zs, hcs, _, hg, hlc, hcm, hc⟩ := open_list (α := Int) (fun z => [.int .u8 z]) (fun z => 0 ≤ z ∧ z ≤ 255) Tryz.underlying45 cells8 (by omega)
    (fun n cs y hy => by obtain ⟨z, rfl, _, hw⟩ := DataW.trod_int Tryz.underlying5 hy; exact ⟨z, rfl, bounds_u8 hw⟩) hf
  simp only [Value.cells, List.cons.injEq, Value.slice.injEq, and_true] at hcs
  obtain ⟨rfl, rfl, rfl⟩ := hcs
  refine ⟨A, c, zs, rfl, hlc, hcm, hg, ?_⟩
  rcases hc with rfl | ⟨b, o, rfl, hc⟩
  · exact .inl rfl
  · refine .inr ⟨b, o, rfl, fun j u hu => ?_⟩
    rw [List.getElem?_map] at hu
    obtain ⟨z, hz, rfl⟩ := Option.map_eq_some_iff.1 hu
    simpa using hc j z hz 0 _ rfl
end

end Go.Proofs.YtpofbhaipeiegaaGreatDoor
