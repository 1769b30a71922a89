/-
  The topology that a text means, in plain Lean: what topology.Parse and waypointref09.Parse return.
-/
import Derived.Test.YtfbloolloifndaaDoorLines
import Derived.Test.YtfbloolloifndaaDoorFields
import Derived.Test.YtfbloolloifndaaDoorScan
import Derived.Test.YtfbloolloifndaaDoorText
import Derived.Lib.Fields
namespace Go.Proofs.YtfbloolloifndaaDoor
set_option linter.unusedSimpArgs false
set_option linter.unusedVariables false

/-! The words of a line of ASCII bytes. -/
def curS (s : List UInt8) (i : Nat) : Option Nat → List UInt8
  | none => []
  | some a => (s.drop a).take (i - a)
theorem cur_more {s : List UInt8} {i a : Nat} {b : UInt8} (h : a ≤ i) (hb : s[i]? = some b) : (s.drop a).take (i + 1 - a) = (s.drop a).take (i - a) ++ [b] := by
  have : (s.drop a)[i - a]? = some b := by rw [List.getElem?_drop, show a + (i - a) = i by omega]; exact hb
  obtain ⟨hk, he⟩ := List.getElem?_eq_some_iff.1 this
  rw [show i + 1 - a = (i - a) + 1 by omega, List.take_succ_eq_append_getElem hk, he]
theorem fs_asc {s : List UInt8} (hs : ∀ b ∈ s, b.toNat < 128) : ∀ (f i : Nat) (st : Option Nat), i ≤ s.length → s.length < i + f → (∀ a, st = some a → a < i) → fsG s f i st = Lib.fieldsGo (curS s i st) (s.drop i) := by
  intro f
  induction f with
  | zero => intro i st h1 h2 _; omega
  | succ f ih =>
    intro i st h1 h2 h3
    by_cases hi : i < s.length
    · obtain ⟨b, hb⟩ : ∃ b, s[i]? = some b := ⟨_, List.getElem?_eq_getElem hi⟩
      have hba := hs b (List.mem_of_getElem? hb)
      have hsp := spAt_asc hb hba
      have hd : s.drop i = b :: s.drop (i + 1) := by rw [List.drop_eq_getElem_cons hi]; congr 1; exact (List.getElem?_eq_some_iff.1 hb).2
      rw [hd]
      cases hp : Lib.isSp b with
      | true =>
        rw [hp] at hsp
        cases st with
        | none =>
          rw [fsG_sp_n hi (by rw [hsp]), hsp, ih _ _ (by omega) (by omega) (fun a e => by cases e)]
          rw [curS, curS, Lib.fieldsGo_sp _ _ hp]
        | some a =>
          have ha := h3 a rfl
          rw [fsG_sp_s hi (by rw [hsp]), hsp, ih _ _ (by omega) (by omega) (fun a e => by cases e)]
          rw [curS, curS, Lib.fieldsGo_end _ _ _ hp]
          intro e
          have := congrArg List.length e
          rw [List.length_take, List.length_drop] at this
          simp at this; omega
      | false =>
        rw [hp] at hsp
        rw [fsG_no hi (by rw [hsp]), hsp, ih _ _ (by omega) (by omega) (fun a e => by
          injection e with e
          subst e
          cases st with
          | none => simp
          | some a => have := h3 a rfl; simp; omega), Lib.fieldsGo_more _ _ _ hp]
        congr 1
        cases st with
        | none => simp only [curS, Option.getD_none]; rw [cur_more (Nat.le_refl _) hb]; simp
        | some a => simp only [curS, Option.getD_some]; exact cur_more (Nat.le_of_lt (h3 a rfl)) hb
    · obtain rfl : i = s.length := by omega
      cases st with
      | none => rw [fsG_end_n hi]; simp [curS, Lib.fieldsGo]
      | some a =>
        have ha := h3 a rfl
        have hne : (s.drop a).take (s.length - a) = s.drop a := List.take_of_length_le (by simp)
        rw [fsG_end_s hi, curS, hne, List.drop_of_length_le (Nat.le_refl _)]
        have : (s.drop a).isEmpty = false := by
          cases hd : s.drop a with
          | nil => have := congrArg List.length hd; rw [List.length_drop] at this; simp at this; omega
          | cons _ _ => rfl
        simp [Lib.fieldsGo, this]
theorem fields_asc {s : List UInt8} (hs : ∀ b ∈ s, b.toNat < 128) : fieldsS s = Lib.fields s := by
  unfold fieldsS Lib.fields
  rw [fs_asc hs _ _ _ (Nat.zero_le _) (by omega) (fun a e => by cases e)]
  rfl
/-- Bytes that part no words. -/
def Blk (w : List UInt8) : Prop := ∀ b ∈ w, Lib.isSp b = false
theorem fg_word : ∀ (w cur : List UInt8) (r : List UInt8), Blk w → Lib.fieldsGo cur (w ++ r) = Lib.fieldsGo (cur ++ w) r
  | [], cur, r, _ => by simp
  | b :: w, cur, r, h => by
    rw [List.cons_append, Lib.fieldsGo_more _ _ _ (h b (by simp)), fg_word w (cur ++ [b]) r (fun x hx => h x (by simp [hx]))]
    simp
theorem fg_nums : ∀ (xs : List Int) (cur : List UInt8), cur ≠ [] → (∀ x ∈ xs, Blk (Lib.itoa x) ∧ Lib.itoa x ≠ []) → Lib.fieldsGo cur (nums xs ++ [10]) = cur :: xs.map Lib.itoa
  | [], cur, hc, _ => by
    rw [show nums [] ++ [10] = [10] from rfl, Lib.fieldsGo_end _ _ _ (by decide) hc]
    rfl
  | x :: xs, cur, hc, h => by
    obtain ⟨h1, h2⟩ := h x (by simp)
    rw [show nums (x :: xs) ++ [10] = 32 :: (Lib.itoa x ++ (nums xs ++ [10])) by simp [nums], Lib.fieldsGo_end _ _ _ (by decide) hc, fg_word _ _ _ h1, List.nil_append, fg_nums xs _ h2 (fun y hy => h y (by simp [hy]))]
    rfl
theorem fields_line {s : List UInt8} {xs : List Int} (hs : Blk s) (h0 : s ≠ []) (h : ∀ x ∈ xs, Blk (Lib.itoa x) ∧ Lib.itoa x ≠ []) : Lib.fields (lineT s xs) = s :: xs.map Lib.itoa := by
  unfold Lib.fields lineT
  rw [List.append_assoc, fg_word _ _ _ hs, List.nil_append, fg_nums _ _ h0 h]

/-! What the program's parser reads. -/
def lnkOf : List Int → Lnk
  | [a, b, c0, c1, cap, dl, g] => ⟨a, b, c0, c1, cap, dl, g⟩
  | _ => ⟨0, 0, 0, 0, 0, 0, 0⟩
def setOv (t : Topo) (n : Int) : Topo := { t with ov := (if (t.ov.length : Int) = t.n then t.ov else List.replicate t.n.toNat false).set n.toNat true }
def readW (t : Topo) : List (List UInt8) → Option Topo
  | [] => none
  | w :: ws =>
    if w = sNodes then (match scanS (w :: ws) 1 with | some vs => some { t with n := vs.headD 0 } | none => none)
    else if w = sOverload then (match scanS (w :: ws) 1 with | some vs => if (inR t.n 1 64 && inR (vs.headD 0) 0 (t.n - 1)) = true then some (setOv t (vs.headD 0)) else none | none => none)
    else if w = sLink then (match scanS (w :: ws) 7 with | some vs => if t.ls.length = 256 then none else some { t with ls := t.ls ++ [lnkOf vs] } | none => none)
    else none
def readT (t : Topo) (l : List UInt8) : Option Topo := readW t (fieldsS l)
def foldT : List (List UInt8) → Topo → Option Topo
  | [], t => some t
  | l :: r, t => match readT t l with | some u => foldT r u | none => none
theorem foldT_app : ∀ (a b : List (List UInt8)) (t : Topo), foldT (a ++ b) t = match foldT a t with | some u => foldT b u | none => none
  | [], b, t => rfl
  | l :: r, b, t => by
    rw [List.cons_append, foldT, foldT]
    cases readT t l with
    | none => rfl
    | some u => exact foldT_app r b u
def zeroT : Topo := ⟨0, [], []⟩
def topoP (s : List UInt8) : Topo × Int := match foldT (linesK s) zeroT with | some t => if valid t = true ∧ textOf t = s then (t, 0) else (zeroT, 3) | none => (zeroT, 3)

/-! The text of a valid topology is read as that topology, an overload that says nothing left out. -/
theorem itoa_blk {x : Int} (h : 0 ≤ x) : Blk (Lib.itoa x) ∧ Lib.itoa x ≠ [] ∧ (∀ b ∈ Lib.itoa x, b.toNat < 128 ∧ b ≠ 10) := by
  rw [itoa_dec h]
  refine ⟨fun b hb => ?_, dec_ne _, fun b hb => ?_⟩
  · obtain ⟨h1, h2⟩ := dec_digits _ b hb
    have hne : ∀ y : UInt8, y.toNat < 48 → (b == y) = false := fun y hy => by rw [beq_eq_false_iff_ne]; rintro rfl; omega
    simp [Lib.isSp, hne 9 (by decide), hne 10 (by decide), hne 11 (by decide), hne 12 (by decide), hne 13 (by decide), hne 32 (by decide)]
  · obtain ⟨h1, h2⟩ := dec_digits _ b hb
    exact ⟨by omega, by rintro rfl; simp at h1⟩
theorem nums_asc : ∀ {xs : List Int}, (∀ x ∈ xs, 0 ≤ x) → ∀ b ∈ nums xs, b.toNat < 128 ∧ b ≠ 10
  | [], _, b, hb => by simp [nums] at hb
  | x :: xs, h, b, hb => by
    rw [show nums (x :: xs) = 32 :: (Lib.itoa x ++ nums xs) by simp [nums]] at hb
    rcases List.mem_cons.1 hb with rfl | hb
    · exact ⟨by decide, by decide⟩
    · rcases List.mem_append.1 hb with hb | hb
      · exact (itoa_blk (h x (by simp))).2.2 b hb
      · exact nums_asc (fun y hy => h y (by simp [hy])) b hb
theorem valsW_itoa : ∀ {xs : List Int}, (∀ x ∈ xs, 0 ≤ x ∧ x ≤ 999999999) → valsW (xs.map Lib.itoa) = some xs
  | [], _ => rfl
  | x :: xs, h => by
    have h1 := h x (by simp)
    rw [List.map_cons, valsW, valW_some.2 (atoi_itoa h1.1 h1.2), valsW_itoa (fun y hy => h y (by simp [hy]))]
/-- A line of the text, and what follows. -/
theorem line_next {s : List UInt8} {xs : List Int} (hs : ∀ b ∈ s, b ≠ 10) (h : ∀ x ∈ xs, 0 ≤ x) (r : List UInt8) : linesK (lineT s xs ++ r) = lineT s xs :: linesK r := by
  have h10 : (10 : UInt8) ∉ s ++ nums xs := by
    intro hm
    rcases List.mem_append.1 hm with hm | hm
    · exact hs _ hm rfl
    · exact (nums_asc h _ hm).2 rfl
  rw [show lineT s xs ++ r = (s ++ nums xs) ++ 10 :: r by simp [lineT], linesK_hit h10]
  rfl
theorem readT_line {t : Topo} {s : List UInt8} {xs : List Int} (hs : Blk s) (h0 : s ≠ []) (ha : ∀ b ∈ s, b.toNat < 128) (h : ∀ x ∈ xs, 0 ≤ x) : readT t (lineT s xs) = readW t (s :: xs.map Lib.itoa) := by
  unfold readT
  rw [fields_asc, fields_line hs h0 (fun x hx => ⟨(itoa_blk (h x hx)).1, (itoa_blk (h x hx)).2.1⟩)]
  intro b hb
  rcases List.mem_append.1 hb with hb | hb
  · rcases List.mem_append.1 hb with hb | hb
    · exact ha b hb
    · exact (nums_asc h b hb).1
  · simp at hb; subst hb; decide
theorem scan_line {s : List UInt8} {xs : List Int} {m : Nat} (hm : xs.length = m) (h : ∀ x ∈ xs, 0 ≤ x ∧ x ≤ 999999999) : scanS (s :: xs.map Lib.itoa) m = some xs := by
  rw [scanS, if_pos (by simp; omega)]
  exact valsW_itoa h
theorem read_nodes (t : Topo) {n : Int} (h : 0 ≤ n ∧ n ≤ 999999999) : readT t (lineT sNodes [n]) = some { t with n := n } := by
  rw [readT_line (by unfold Blk; decide) (by decide) (by decide) (by simp [h.1])]
  show readW t (sNodes :: [n].map Lib.itoa) = _
  rw [readW, if_pos rfl, scan_line (m := 1) rfl (by simpa using h)]
  rfl
theorem read_over {t : Topo} {k : Int} (h0 : 0 ≤ k) (hk : k ≤ t.n - 1) (hn : t.n ≤ 64) : readT t (lineT sOverload [k]) = some (setOv t k) := by
  rw [readT_line (by unfold Blk; decide) (by decide) (by decide) (by simp [h0])]
  show readW t (sOverload :: [k].map Lib.itoa) = _
  rw [readW, if_neg (by decide), if_pos rfl, scan_line (m := 1) rfl (by simp; omega)]
  have h1 : (inR t.n 1 64 && inR k 0 (t.n - 1)) = true := by rw [inR_true.2 (by omega), inR_true.2 (by omega)]; rfl
  show (if (inR t.n 1 64 && inR k 0 (t.n - 1)) = true then _ else _) = _
  rw [if_pos h1]
  rfl
theorem read_link {t : Topo} {l : Lnk} (h : ∀ x ∈ lnkNums l, 0 ≤ x ∧ x ≤ 999999999) (hl : t.ls.length ≠ 256) : readT t (lineT sLink (lnkNums l)) = some { t with ls := t.ls ++ [l] } := by
  rw [readT_line (by unfold Blk; decide) (by decide) (by decide) (fun x hx => (h x hx).1)]
  rw [readW, if_neg (by decide), if_neg (by decide), if_pos rfl, scan_line (m := 7) rfl h]
  show (if t.ls.length = 256 then none else _) = _
  rw [if_neg hl]
  rfl

def ovS (N : Nat) (ov : List Bool) (k : Nat) : List Bool := if (ov.take k).any id = true then ov.take k ++ List.replicate (N - k) false else []
theorem take_false {ov : List Bool} {k : Nat} (h : (ov.take k).any id = false) (hk : k ≤ ov.length) : ov.take k = List.replicate k false := by
  apply List.ext_getElem (by simp; omega)
  intro i h1 h2
  rw [List.any_eq_false] at h
  have := h _ (List.getElem_mem h1)
  simpa using this
theorem ovS_no {N : Nat} {ov : List Bool} {k : Nat} (hk : k < ov.length) (hN : ov.length = N) (h : ov.getD k false = false) : ovS N ov (k + 1) = ovS N ov k := by
  have hg : ov[k] = false := by simpa [List.getD_eq_getElem?_getD, List.getElem?_eq_getElem hk] using h
  have ht : ov.take (k + 1) = ov.take k ++ [false] := by rw [List.take_succ_eq_append_getElem hk, hg]
  unfold ovS
  rw [ht]
  have h1 : (ov.take k ++ [false]).any id = (ov.take k).any id := by simp
  rw [h1]
  split
  · rw [show N - k = (N - (k + 1)) + 1 by omega, List.replicate_succ]; simp
  · rfl
theorem ovS_yes {n : Int} {ls : List Lnk} {N : Nat} {ov : List Bool} {k : Nat} (hk : k < ov.length) (hN : ov.length = N) (hn : n = (N : Int)) (h : ov.getD k false = true) : setOv ⟨n, ovS N ov k, ls⟩ (k : Int) = ⟨n, ovS N ov (k + 1), ls⟩ := by
  have hg : ov[k] = true := by simpa [List.getD_eq_getElem?_getD, List.getElem?_eq_getElem hk] using h
  have ht : ov.take (k + 1) = ov.take k ++ [true] := by rw [List.take_succ_eq_append_getElem hk, hg]
  have hS : ovS N ov (k + 1) = ov.take k ++ true :: List.replicate (N - (k + 1)) false := by
    unfold ovS
    rw [ht, if_pos (by simp)]; simp
  have hL : (ov.take k ++ List.replicate (N - k) false).set k true = ov.take k ++ true :: List.replicate (N - (k + 1)) false := by
    rw [show N - k = (N - (k + 1)) + 1 by omega, List.replicate_succ, List.set_append_right _ _ (by simp; omega)]
    simp [show min k ov.length = k by omega]
  unfold setOv
  simp only [Int.toNat_natCast, hS]
  subst hn
  cases ha : (ov.take k).any id with
  | true =>
    have : ovS N ov k = ov.take k ++ List.replicate (N - k) false := by unfold ovS; rw [if_pos ha]
    rw [this, if_pos (by simp; omega), hL]
  | false =>
    have : ovS N ov k = [] := by unfold ovS; rw [if_neg (by rw [ha]; exact Bool.false_ne_true)]
    rw [this, if_neg (by simp; omega), Int.toNat_natCast]
    have h2 : List.replicate N false = ov.take k ++ List.replicate (N - k) false := by
      rw [take_false ha (by omega), List.replicate_append_replicate]; congr 1; omega
    rw [h2, hL]
theorem fold_ov {n : Int} {N : Nat} {ov : List Bool} (hN : ov.length = N) (hn : n = (N : Int)) (h64 : n ≤ 64) : ∀ k, k ≤ ov.length → ∀ r, foldT (linesK (ovK ov k ++ r)) ⟨n, [], []⟩ = foldT (linesK r) ⟨n, ovS N ov k, []⟩
  | 0, _, r => by simp [ovK, ovS]
  | k + 1, hk, r => by
    rw [ovK_succ, List.append_assoc, fold_ov hN hn h64 k (by omega)]
    cases h : ov.getD k false with
    | false => rw [ovS_no (by omega) hN h, show ovOne ov k = [] by unfold ovOne; rw [if_neg (by rw [h]; exact Bool.false_ne_true)], List.nil_append]
    | true =>
      rw [show ovOne ov k = lineT sOverload [(k : Int)] by unfold ovOne; rw [if_pos h], line_next (by decide) (by simp), foldT, read_over (by omega) (by simp only; omega) (by simpa using h64), ovS_yes (by omega) hN hn h]
theorem fold_lk {n : Int} {o : List Bool} {ls : List Lnk} (h256 : ls.length ≤ 256) (hb : ∀ l ∈ ls, ∀ x ∈ lnkNums l, 0 ≤ x ∧ x ≤ 999999999) : ∀ k, k ≤ ls.length → ∀ r, foldT (linesK (lkK ls k ++ r)) ⟨n, o, []⟩ = foldT (linesK r) ⟨n, o, ls.take k⟩
  | 0, _, r => by simp [lkK]
  | k + 1, hk, r => by
    have hl := List.getElem?_eq_getElem (show k < ls.length by omega)
    have hx := hb _ (List.getElem_mem (show k < ls.length by omega))
    rw [lkK_succ hl, List.append_assoc, fold_lk h256 hb k (by omega), line_next (by decide) (fun x h => (hx x h).1), foldT, read_link hx (by simp; omega)]
    rw [List.take_succ_eq_append_getElem (by omega)]
/-- A topology whose overloads say something, or are left out. -/
def normT (t : Topo) : Topo := { t with ov := if t.ov.any id = true then t.ov else [] }
theorem lnk_nn {n : Int} {l : Lnk} (hn : n ≤ 64) (h : lnkOk n l = true) : ∀ x ∈ lnkNums l, 0 ≤ x ∧ x ≤ 999999999 := by
  unfold lnkOk at h
  simp only [Bool.and_eq_true] at h
  obtain ⟨⟨⟨⟨⟨⟨⟨_, h1⟩, h2⟩, h3⟩, h4⟩, h5⟩, h6⟩, h7⟩ := h
  have g1 := inR_true.1 h1
  have g2 := inR_true.1 h2
  have g3 := inR_true.1 h3
  have g4 := inR_true.1 h4
  have g5 := inR_true.1 h5
  have g6 := inR_true.1 h6
  have g7 := inR_true.1 h7
  intro x hx
  simp only [lnkNums, List.mem_cons, List.not_mem_nil, or_false] at hx
  rcases hx with rfl | rfl | rfl | rfl | rfl | rfl | rfl <;> omega
theorem valid_parts {t : Topo} (h : valid t = true) : 1 ≤ t.n ∧ t.n ≤ 64 ∧ t.ls.length ≤ 256 ∧ (t.ov.length = 0 ∨ (t.ov.length : Int) = t.n) ∧ ∀ l ∈ t.ls, lnkOk t.n l = true := by
  unfold valid at h
  simp only [Bool.and_eq_true, Bool.or_eq_true, decide_eq_true_eq, List.all_eq_true] at h
  obtain ⟨⟨⟨h1, h2⟩, h3⟩, h4⟩ := h
  have := inR_true.1 h1
  exact ⟨this.1, this.2, h2, h3, h4⟩
theorem fold_text {t : Topo} (hv : valid t = true) : foldT (linesK (textOf t)) zeroT = some (normT t) := by
  obtain ⟨h1, h2, h3, h4, h5⟩ := valid_parts hv
  have hb : ∀ l ∈ t.ls, ∀ x ∈ lnkNums l, 0 ≤ x ∧ x ≤ 999999999 := fun l hl => lnk_nn h2 (h5 l hl)
  unfold textOf
  rw [List.append_assoc, line_next (by decide) (by simp; omega), foldT, read_nodes zeroT (by omega)]
  show foldT (linesK (ovK t.ov t.ov.length ++ lkK t.ls t.ls.length)) ⟨t.n, [], []⟩ = some (normT t)
  rcases h4 with h4 | h4
  · have ho : t.ov = [] := List.eq_nil_of_length_eq_zero h4
    have := fold_lk (n := t.n) (o := []) h3 hb t.ls.length (Nat.le_refl _) []
    rw [List.append_nil] at this
    rw [ho]
    show foldT (linesK ([] ++ lkK t.ls t.ls.length)) ⟨t.n, [], []⟩ = _
    rw [List.nil_append, this, List.take_length]
    simp [linesK_nil, foldT, normT, ho]
  · rw [fold_ov (N := t.ov.length) rfl h4.symm h2 t.ov.length (Nat.le_refl _)]
    have := fold_lk (n := t.n) (o := ovS t.ov.length t.ov t.ov.length) h3 hb t.ls.length (Nat.le_refl _) []
    rw [List.append_nil] at this
    rw [this, List.take_length]
    simp [linesK_nil, foldT, normT, ovS]

end Go.Proofs.YtfbloolloifndaaDoor
