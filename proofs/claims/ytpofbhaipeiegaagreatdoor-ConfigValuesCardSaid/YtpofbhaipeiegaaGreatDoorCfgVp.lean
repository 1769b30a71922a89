/-
  The value of the expression that ConfigValues writes (plain).
-/
import Derived.Test.YtpofbhaipeiegaaGreatDoorCfgPa
namespace Go.Proofs.YtpofbhaipeiegaaGreatDoor
set_option linter.unusedSimpArgs false
set_option linter.unusedVariables false
open Go.RowKit Go.Shelf Go.Sort

theorem dig_nosep {x : UInt8} (h1 : 48 ≤ x.toNat) (h2 : x.toNat ≤ 57) : (symB x || spcB x) = false := by
  have : ∀ c : UInt8, (c.toNat < 48 ∨ 57 < c.toNat) → (x == c) = false := fun c hc => by
    rw [beq_eq_false_iff_ne]; rintro rfl; omega
  simp only [symB, spcB, this 61 (by decide), this 40 (by decide), this 41 (by decide), this 43 (by decide), this 45 (by decide), this 42 (by decide), this 60 (by decide), this 62 (by decide), this 32 (by decide), this 9 (by decide), Bool.or_self]
theorem dec_nosep {u : Nat} {x : UInt8} (h : x ∈ Lib.decDigits u) : (symB x || spcB x) = false := dig_nosep (dec_digits u x h).1 (dec_digits u x h).2
theorem wordsK_run : ∀ (ds u r : List UInt8), (∀ x ∈ ds, (symB x || spcB x) = false) → wordsK u (ds ++ r) = wordsK (u ++ ds) r
  | [], u, r, _ => by simp
  | x :: ds, u, r, h => by
    rw [List.cons_append, wordsK, h x (by simp), if_neg (by decide), wordsK_run ds (u ++ [x]) r (fun y hy => h y (by simp [hy]))]; simp
/-- What may stand behind a word: nothing, or a byte that parts. -/
def opens (r : List UInt8) : Prop := r = [] ∨ ∃ x q, r = x :: q ∧ (symB x || spcB x) = true
theorem wordsK_open {u : List UInt8} (hu : u ≠ []) {r : List UInt8} (hr : opens r) : wordsK u r = u :: wordsK [] r := by
  rcases hr with rfl | ⟨x, q, rfl, hx⟩
  · simp [wordsK, hu]
  · rw [wordsK, if_pos hx, if_neg hu, wordsK, if_pos hx, if_pos rfl]; simp
theorem wordsK_word {ds r : List UInt8} (hd : ds ≠ []) (h : ∀ x ∈ ds, (symB x || spcB x) = false) (hr : opens r) : wordsK [] (ds ++ r) = ds :: wordsK [] r := by
  rw [wordsK_run ds [] r h, List.nil_append, wordsK_open hd hr]
theorem wordsK_dec (u : Nat) {r : List UInt8} (hr : opens r) : wordsK [] (Lib.decDigits u ++ r) = Lib.decDigits u :: wordsK [] r := wordsK_word (dec_ne u) (fun x hx => dec_nosep hx) hr
theorem opens_cons {x : UInt8} (q : List UInt8) (hx : (symB x || spcB x) = true) : opens (x :: q) := .inr ⟨x, q, rfl, hx⟩
theorem wordsK_sym {x : UInt8} (q : List UInt8) (hx : symB x = true) (hs : spcB x = false) : wordsK [] (x :: q) = [x] :: wordsK [] q := by
  rw [wordsK, if_pos (by rw [hx]; rfl), if_pos rfl, if_neg (by rw [hs]; decide)]; rfl
theorem wordsK_spc {x : UInt8} (q : List UInt8) (hs : spcB x = true) : wordsK [] (x :: q) = wordsK [] q := by
  rw [wordsK, if_pos (by rw [hs]; simp), if_pos rfl, if_pos hs]; rfl
theorem opens_app {x : UInt8} (l q : List UInt8) (hx : (symB x || spcB x) = true) : opens ((x :: l) ++ q) := .inr ⟨x, l ++ q, rfl, hx⟩
/-- A number as the law writes it, and its words. -/
def numT (n : Int) : List UInt8 := if n < 0 then 45 :: 32 :: Lib.decDigits n.natAbs else Lib.decDigits n.natAbs
def numW (n : Int) : List (List UInt8) := if n < 0 then [oMinus, Lib.decDigits n.natAbs] else [Lib.decDigits n.natAbs]
theorem words_num (n : Int) {r : List UInt8} (hr : opens r) : wordsK [] (numT n ++ r) = numW n ++ wordsK [] r := by
  unfold numT numW
  by_cases h : n < 0
  · rw [if_pos h, if_pos h, List.cons_append, List.cons_append, wordsK_sym _ rfl rfl, wordsK_spc _ rfl, wordsK_dec _ hr]; rfl
  · rw [if_neg h, if_neg h, wordsK_dec _ hr]; rfl
theorem words_itoa (n : Int) {r : List UInt8} (hr : opens r) : wordsK [] (Lib.itoa n ++ r) = numW n ++ wordsK [] r := by
  unfold Lib.itoa numW
  by_cases h : n < 0
  · rw [if_pos h, if_pos h, List.cons_append, wordsK_sym _ rfl rfl, wordsK_dec _ hr]; rfl
  · rw [if_neg h, if_neg h, wordsK_dec _ hr, show n.toNat = n.natAbs by omega]; rfl
theorem num_bytes {n : Int} {x : UInt8} (h : x ∈ numT n) : x = 45 ∨ x = 32 ∨ (48 ≤ x.toNat ∧ x.toNat ≤ 57) := by
  unfold numT at h
  split at h
  · simp only [List.mem_cons] at h
    rcases h with h | h | h
    · exact .inl h
    · exact .inr (.inl h)
    · exact .inr (.inr (dec_digits _ x h))
  · exact .inr (.inr (dec_digits _ x h))
theorem itoa_bytes {n : Int} {x : UInt8} (h : x ∈ Lib.itoa n) : x = 45 ∨ x = 32 ∨ (48 ≤ x.toNat ∧ x.toNat ≤ 57) := by
  unfold Lib.itoa at h
  split at h
  · simp only [List.mem_cons] at h
    rcases h with h | h
    · exact .inl h
    · exact .inr (.inr (dec_digits _ x h))
  · exact .inr (.inr (dec_digits _ x h))

/-! A number is read. -/
theorem dec_head : ∀ u : Nat, 10 ≤ u → (Lib.decDigits u).head? ≠ some 48 := by
  intro u
  induction u using Nat.strongRecOn with
  | _ u ih =>
    intro h
    rw [dec_big (by omega), List.head?_append]
    by_cases h2 : u / 10 < 10
    · rw [dec_small h2]
      simp only [List.head?_cons, Option.some_or, ne_eq, Option.some.injEq]
      intro e
      have := congrArg UInt8.toNat e
      rw [digit_toNat h2] at this
      have h3 : (48 : UInt8).toNat = 48 := rfl
      omega
    · have := ih (u / 10) (by omega) (by omega)
      cases hd : (Lib.decDigits (u / 10)).head? with
      | none => rw [List.head?_eq_none_iff] at hd; exact absurd hd (dec_ne _)
      | some v => rw [hd] at this; simpa using this
theorem dec_digitsB {u : Nat} (h : u < 1000000000000) : digitsB (Lib.decDigits u) = true := by
  have h1 := dec_len 11 u (by omega)
  have h2 : (Lib.decDigits u).all digB = true := List.all_eq_true.2 fun x hx => by
    have := dec_digits u x hx
    simp [digB, this.1, this.2]
  have h3 : (Lib.decDigits u).isEmpty = false := by
    cases hd : Lib.decDigits u with
    | nil => exact absurd hd (dec_ne u)
    | cons a b => rfl
  have h4 : (decide (1 < (Lib.decDigits u).length) && decide ((Lib.decDigits u).head? = some 48)) = false := by
    by_cases h5 : u < 10
    · rw [dec_small h5]; rfl
    · rw [decide_eq_false (dec_head u (by omega)), Bool.and_false]
  unfold digitsB
  rw [h2, h3, h4, decide_eq_true (by omega)]
  rfl
theorem dec_notin {u : Nat} {c : UInt8} (hc : c.toNat < 48 ∨ 57 < c.toNat) : Lib.decDigits u ≠ [c] := by
  intro e
  have := dec_digits u c (by rw [e]; simp)
  omega
theorem dec_atoi {u : Nat} (h : u < 1000000000000) : atoiS (Lib.decDigits u) = (u : Int) := by
  unfold atoiS
  rw [atoi_dec (by omega)]
theorem factor_dec (dry : Bool) (sy : SymS) {u : Nat} (h : u < 1000000000000) (r ops : List (List UInt8)) (vs : List Int) : factorS dry sy (Lib.decDigits u :: r) ops vs = .ok ((ops, (u : Int) :: vs), r) := by
  rw [factorS, if_neg (show Lib.decDigits u ≠ oOpen from dec_notin (by decide)), if_neg (show Lib.decDigits u ≠ oMinus from dec_notin (by decide)), if_pos (dec_digitsB h), dec_atoi h]
/-- What follows a factor. -/
def post (dry : Bool) (sy : SymS) (f : Nat) (o1 : List (List UInt8)) (v1 : List Int) (r1 : List (List UInt8)) : PR Int :=
      match closeS dry r1 o1 v1 with
      | .error e => .error e
      | .ok ((o2, v2), r2) =>
        if rankS (peekS r2) = 0 then (match endS dry o2 v2 with | .ok v => .ok (v, r2) | .error e => .error e)
        else (match combineS dry (rankS (peekS r2)) o2 v2 with
          | .error e => .error e
          | .ok (o3, v3) => exprF dry sy f (r2.drop 1) (peekS r2 :: o3) v3)
theorem exprF_post {dry : Bool} {sy : SymS} {f : Nat} {ws ops o1 r1 : List (List UInt8)} {vs v1 : List Int} (h : factorS dry sy ws ops vs = .ok ((o1, v1), r1)) : exprF dry sy (f + 1) ws ops vs = post dry sy f o1 v1 r1 := by
  rw [exprF, h]; rfl
theorem rank_le (w : List UInt8) : rankS w ≤ 3 := by
  unfold rankS
  split
  · omega
  · split
    · omega
    · split <;> omega
theorem wrap_small {n : Int} (h : -4611686018427387904 ≤ n ∧ n ≤ 4611686018427387904) : wrap64 n = n := by
  unfold wrap64; omega
theorem combine_neg (dry : Bool) {k : Nat} (hk : k ≤ 3) (ops : List (List UInt8)) (n : Int) (vs : List Int) (hn : -4611686018427387904 ≤ n ∧ n ≤ 4611686018427387904) : combineS dry k (oNeg :: ops) (-n :: vs) = combineS dry k ops (n :: vs) := by
  rw [combineS, if_neg (by have : rankS oNeg = 3 := rfl; omega), if_pos rfl]
  rw [show wrap64 (- -n) = n by rw [Int.neg_neg]; exact wrap_small hn]
theorem openS_neg (ops : List (List UInt8)) : openS (oNeg :: ops) = openS ops := by
  unfold openS
  have : oOpen ≠ oNeg := by decide
  simp [List.mem_cons, this]
theorem post_neg (dry : Bool) (sy : SymS) (f : Nat) (ops : List (List UInt8)) (n : Int) (vs : List Int) (r : List (List UInt8)) (hn : -4611686018427387904 ≤ n ∧ n ≤ 4611686018427387904) : post dry sy f (oNeg :: ops) (-n :: vs) r = post dry sy f ops (n :: vs) r := by
  unfold post
  have key : ∀ r2 : List (List UInt8), (if rankS (peekS r2) = 0 then (match endS dry (oNeg :: ops) (-n :: vs) with | .ok v => Except.ok (v, r2) | .error e => .error e)
        else (match combineS dry (rankS (peekS r2)) (oNeg :: ops) (-n :: vs) with
          | .error e => .error e
          | .ok (o3, v3) => exprF dry sy f (r2.drop 1) (peekS r2 :: o3) v3)) = (if rankS (peekS r2) = 0 then (match endS dry ops (n :: vs) with | .ok v => Except.ok (v, r2) | .error e => .error e)
        else (match combineS dry (rankS (peekS r2)) ops (n :: vs) with
          | .error e => .error e
          | .ok (o3, v3) => exprF dry sy f (r2.drop 1) (peekS r2 :: o3) v3)) := fun r2 => by
    rw [combine_neg dry (rank_le _) ops n vs hn]
    unfold endS
    rw [combine_neg dry (by omega) ops n vs hn]
  cases r with
  | nil => simp only [closeS]; exact key []
  | cons w r =>
    by_cases hw : openS ops = true ∧ w = oClose
    · simp only [closeS, openS_neg, if_pos hw, combine_neg dry (show 1 ≤ 3 by omega) ops n vs hn]
    · simp only [closeS, openS_neg, if_neg hw]; exact key (w :: r)
theorem exprF_num (dry : Bool) (sy : SymS) (f : Nat) (n : Int) (r ops : List (List UInt8)) (vs : List Int) (hn : n.natAbs < 1000000000000) : exprF dry sy (f + 1) (numW n ++ r) ops vs = post dry sy f ops (n :: vs) r := by
  unfold numW
  by_cases h : n < 0
  · rw [if_pos h]
    have h1 : factorS dry sy ([oMinus, Lib.decDigits n.natAbs] ++ r) ops vs = .ok ((oNeg :: ops, -n :: vs), r) := by
      rw [List.cons_append, factorS, if_neg (by decide), if_pos rfl]
      show factorS dry sy (Lib.decDigits n.natAbs :: r) (oNeg :: ops) vs = _
      rw [factor_dec dry sy hn, show ((n.natAbs : Nat) : Int) = -n by omega]
    rw [exprF_post h1, post_neg _ _ _ _ _ _ _ (by omega)]
  · rw [if_neg h]
    have h1 : factorS dry sy ([Lib.decDigits n.natAbs] ++ r) ops vs = .ok ((ops, n :: vs), r) := by
      show factorS dry sy (Lib.decDigits n.natAbs :: r) ops vs = _
      rw [factor_dec dry sy hn, show ((n.natAbs : Nat) : Int) = n by omega]
    rw [exprF_post h1]
theorem exprF_let (dry : Bool) (sy : SymS) (f : Nat) (x : List UInt8) (v : Int) (r ops : List (List UInt8)) (vs : List Int) (h1 : x ≠ oOpen) (h2 : x ≠ oMinus) (h3 : digitsB x = false) (h4 : namedB x = true) (hs : lookS sy x = some (3, v)) : exprF dry sy (f + 1) (x :: r) ops vs = post dry sy f ops (v :: vs) r := by
  refine exprF_post ?_
  rw [factorS, if_neg h1, if_neg h2, if_neg (by rw [h3]; decide)]
  simp only [useS, if_pos h4, hs, useOf, or_true, if_true]
theorem exprF_open (dry : Bool) (sy : SymS) (f : Nat) (r ops : List (List UInt8)) (vs : List Int) : exprF dry sy (f + 1) (oOpen :: r) ops vs = exprF dry sy (f + 1) r (oOpen :: ops) vs := by
  rw [exprF, exprF, factorS, if_pos rfl]
theorem exprF_neg (dry : Bool) (sy : SymS) (f : Nat) (r ops : List (List UInt8)) (vs : List Int) : exprF dry sy (f + 1) (oMinus :: r) ops vs = exprF dry sy (f + 1) r (oNeg :: ops) vs := by
  rw [exprF, exprF, factorS, if_neg (by decide), if_pos rfl]
theorem post_op {dry : Bool} {sy : SymS} {f k : Nat} {o : List UInt8} {r ops o3 : List (List UInt8)} {vs v3 : List Int} (hk : rankS o = k + 1) (h : combineS dry (k + 1) ops vs = .ok (o3, v3)) : post dry sy f ops vs (o :: r) = exprF dry sy f r (o :: o3) v3 := by
  have h1 : ¬ (openS ops = true ∧ o = oClose) := fun ⟨_, e⟩ => by rw [e] at hk; cases hk
  unfold post
  simp only [closeS, if_neg h1, peekS, List.headD_cons, hk, if_neg (show ¬ k + 1 = 0 by omega), h, List.drop_succ_cons, List.drop_zero]
theorem post_close {dry : Bool} {sy : SymS} {f : Nat} {r ops os : List (List UInt8)} {vs v' : List Int} (ho : openS ops = true) (h : combineS dry 1 ops vs = .ok (os, v')) : post dry sy f ops vs (oClose :: r) = post dry sy f (os.drop 1) v' r := by
  unfold post
  rw [closeS, if_pos ⟨ho, rfl⟩, h]
theorem post_end {dry : Bool} {sy : SymS} {f : Nat} {ops : List (List UInt8)} {vs : List Int} {v : Int} (h : combineS dry 1 ops vs = .ok ([], [v])) : post dry sy f ops vs [] = .ok (v, []) := by
  unfold post
  simp only [closeS, peekS, List.headD_nil, show rankS [] = 0 from rfl, if_true, endS, h]
  rfl
/-! The operations, at small numbers. -/
theorem small_ok {dry : Bool} {c : Int} (h : -1099511627776 ≤ c ∧ c ≤ 1099511627776) : smallS dry c = .ok c := by
  unfold smallS
  rw [if_neg (fun q => q.2 h)]
theorem op_add {dry : Bool} {a b : Int} (h : -1099511627776 ≤ a + b ∧ a + b ≤ 1099511627776) : operateS dry oPlus a b = .ok (a + b) := by
  unfold operateS
  rw [if_pos rfl, wrap_small (by omega), small_ok h]
theorem op_sub {dry : Bool} {a b : Int} (h : -1099511627776 ≤ a - b ∧ a - b ≤ 1099511627776) : operateS dry oMinus a b = .ok (a - b) := by
  unfold operateS
  rw [if_neg (by decide), if_pos rfl, wrap_small (by omega), small_ok h]
theorem op_mul {dry : Bool} {a b : Int} (ha : -32768 ≤ a ∧ a ≤ 32768) (hb : -1000000 ≤ b ∧ b ≤ 1000000) : operateS dry oStar a b = .ok (a * b) := by
  unfold operateS
  rw [if_neg (by decide), if_neg (by decide)]
  by_cases hz : a = 0 ∨ b = 0
  · rw [if_pos hz]
    rcases hz with rfl | rfl
    · rw [Int.zero_mul]
    · rw [Int.mul_zero]
  · have hab : -32768000000 ≤ a * b ∧ a * b ≤ 32768000000 := by
      have h1 : (a * b).natAbs ≤ 32768 * 1000000 := by
        rw [Int.natAbs_mul]
        exact Nat.mul_le_mul (by omega) (by omega)
      omega
    rw [if_neg hz, if_neg, wrap_small (by omega), small_ok (by omega)]
    rintro ⟨_, hm⟩
    unfold mulOk at hm
    rw [wrap_small (n := -a) (by omega), wrap_small (n := -b) (by omega)] at hm
    obtain ⟨m, hm1⟩ : ∃ m : Int, m = max a (-a) := ⟨_, rfl⟩
    rw [← hm1] at hm
    have h1 : 1 ≤ m ∧ m ≤ 32768 := by omega
    have h2 : (1099511627776 : Int) / 32768 ≤ 1099511627776 / m := by
      rw [Int.le_ediv_iff_mul_le (by omega)]
      have : (1099511627776 : Int) / 32768 * m ≤ 33554432 * 32768 := Int.mul_le_mul_of_nonneg_left h1.2 (by omega)
      omega
    have h3 : Int.tdiv 1099511627776 m = 1099511627776 / m := Int.tdiv_eq_ediv_of_nonneg (by omega)
    have h4 : (1099511627776 : Int) / m ≤ 1099511627776 := Int.ediv_le_self _ (by omega)
    rw [h3, wrap_small (by omega)] at hm
    simp at hm
    omega
theorem combine_stop {dry : Bool} {k : Nat} {o : List UInt8} {os : List (List UInt8)} {vs : List Int} (h : rankS o < k) : combineS dry k (o :: os) vs = .ok (o :: os, vs) := by
  unfold combineS; rw [if_pos h]
theorem combine_nil {dry : Bool} {k : Nat} {vs : List Int} : combineS dry k [] vs = .ok ([], vs) := by unfold combineS; rfl
theorem combine_op {dry : Bool} {k : Nat} {o : List UInt8} {os : List (List UInt8)} {x y z : Int} {vs : List Int} (h : k ≤ rankS o) (hn : o ≠ oNeg) (hz : operateS dry o x y = .ok z) : combineS dry k (o :: os) (y :: x :: vs) = combineS dry k os (z :: vs) := by
  rw [combineS, if_neg (by omega), if_neg hn]
  simp only [hz]
theorem combine_un {dry : Bool} {k : Nat} {os : List (List UInt8)} {x : Int} {vs : List Int} (h : k ≤ 3) (hx : -1099511627776 ≤ x ∧ x ≤ 1099511627776) : combineS dry k (oNeg :: os) (x :: vs) = combineS dry k os (-x :: vs) := by
  rw [combineS, if_neg (by have : rankS oNeg = 3 := rfl; omega), if_pos rfl]
  rw [wrap_small (by omega)]

/-! The three expressions. -/
def kA : List UInt8 := [97]
def kV : List UInt8 := [118]
def wantV (a b c d : Int) : Int := a * (b - c) + d * -a - b * 2
def in16 (n : Int) : Prop := -32768 ≤ n ∧ n ≤ 32767
theorem expr_one (dry : Bool) (sy : SymS) (n : Int) (hn : n.natAbs < 1000000000000) : exprS dry sy (numW n) = .ok (n, []) := by
  unfold exprS
  have := exprF_num dry sy (numW n).length n [] [] [] hn
  rw [List.append_nil] at this
  rw [this, post_end combine_nil]
theorem mul_in {x y : Int} {p q : Nat} (hx : x.natAbs ≤ p) (hy : y.natAbs ≤ q) : -((p * q : Nat) : Int) ≤ x * y ∧ x * y ≤ ((p * q : Nat) : Int) := by
  have h1 : (x * y).natAbs ≤ p * q := by rw [Int.natAbs_mul]; exact Nat.mul_le_mul hx hy
  omega
theorem expr_val (dry : Bool) (sy : SymS) {a b c d : Int} (ha : in16 a) (hb : in16 b) (hc : in16 c) (hd : in16 d) (hs : lookS sy kA = some (3, a)) :
    exprS dry sy (kA :: oStar :: oOpen :: (numW b ++ oMinus :: (numW c ++ oClose :: oPlus :: (numW d ++ oStar :: oMinus :: kA :: oMinus :: (numW b ++ [oStar, [50]]))))) = .ok (wantV a b c d, []) := by
  unfold in16 at *
  obtain ⟨f, hf⟩ : ∃ f, (kA :: oStar :: oOpen :: (numW b ++ oMinus :: (numW c ++ oClose :: oPlus :: (numW d ++ oStar :: oMinus :: kA :: oMinus :: (numW b ++ [oStar, [50]]))))).length + 1 = f + 7 := ⟨_, (Nat.sub_add_cancel (by simp only [List.length_cons, List.length_append]; omega)).symm⟩
  have e1 : -(32768 * 65536 : Nat) ≤ a * (b - c) ∧ a * (b - c) ≤ (32768 * 65536 : Nat) := mul_in (by omega) (by omega)
  have e2 : -(32768 * 32768 : Nat) ≤ d * -a ∧ d * -a ≤ (32768 * 32768 : Nat) := mul_in (by omega) (by omega)
  unfold exprS
  rw [hf]
  rw [exprF_let dry sy (f + 6) kA a _ _ _ (by decide) (by decide) (by decide) (by decide) hs]
  rw [post_op (k := 1) rfl combine_nil, exprF_open, exprF_num dry sy (f + 5) b _ _ _ (by omega)]
  rw [post_op (k := 0) rfl (combine_stop (by decide)), exprF_num dry sy (f + 4) c _ _ _ (by omega)]
  rw [post_close (by decide) ((combine_op (by decide) (by decide) (op_sub (by omega))).trans (combine_stop (by decide)))]
  rw [List.drop_succ_cons, List.drop_zero]
  rw [post_op (k := 0) rfl ((combine_op (by decide) (by decide) (op_mul (by omega) (by omega))).trans combine_nil), exprF_num dry sy (f + 3) d _ _ _ (by omega)]
  rw [post_op (k := 1) rfl (combine_stop (by decide)), exprF_neg, exprF_let dry sy (f + 2) kA a _ _ _ (by decide) (by decide) (by decide) (by decide) hs]
  rw [post_op (k := 0) rfl ((combine_un (by decide) (by omega)).trans ((combine_op (by decide) (by decide) (op_mul (by omega) (by omega))).trans ((combine_op (by decide) (by decide) (op_add (by omega))).trans combine_nil)))]
  rw [exprF_num dry sy (f + 1) b _ _ _ (by omega)]
  rw [post_op (k := 1) rfl (combine_stop (by decide))]
  have h2 : ([[50]] : List (List UInt8)) = numW 2 ++ [] := by unfold numW; rw [if_neg (by decide), dec_small (by decide)]; rfl
  rw [h2, exprF_num dry sy f 2 _ _ _ (by decide)]
  refine post_end ((combine_op (by decide) (by decide) (op_mul (by omega) (by omega))).trans ((combine_op (by decide) (by decide) (op_sub ?_)).trans combine_nil))
  omega
theorem expr_hold (dry : Bool) (sy : SymS) {v : Int} (hv : -1099511627776 ≤ v ∧ v ≤ 1099511627776) (hv2 : v.natAbs < 1000000000000) (hs : lookS sy kV = some (3, v)) :
    exprS dry sy (kV :: oMinus :: oOpen :: (numW v ++ [oClose, oPlus, [57]])) = .ok (9, []) := by
  obtain ⟨f, hf⟩ : ∃ f, (kV :: oMinus :: oOpen :: (numW v ++ [oClose, oPlus, [57]])).length + 1 = f + 3 := ⟨_, (Nat.sub_add_cancel (by simp only [List.length_cons, List.length_append]; omega)).symm⟩
  unfold exprS
  rw [hf]
  rw [exprF_let dry sy (f + 2) kV v _ _ _ (by decide) (by decide) (by decide) (by decide) hs]
  rw [post_op (k := 0) rfl combine_nil, exprF_open, exprF_num dry sy (f + 1) v _ _ _ (by omega)]
  rw [post_close (by decide) (combine_stop (by decide)), List.drop_succ_cons, List.drop_zero]
  rw [post_op (k := 0) rfl ((combine_op (by decide) (by decide) (op_sub (by omega))).trans combine_nil), Int.sub_self]
  have h2 : ([[57]] : List (List UInt8)) = numW 9 ++ [] := by unfold numW; rw [if_neg (by decide), dec_small (by decide)]; rfl
  rw [h2, exprF_num dry sy f 9 _ _ _ (by decide)]
  exact post_end ((combine_op (by decide) (by decide) (op_add (by decide))).trans combine_nil)

/-! The text, its lines, their words. -/
def okL (l : List UInt8) : Prop := ∀ x ∈ l, x ≠ 10 ∧ x ≠ 35
theorem okL_app {x y : List UInt8} (hx : okL x) (hy : okL y) : okL (x ++ y) := fun b hb => by
  rcases List.mem_append.1 hb with h | h
  · exact hx b h
  · exact hy b h
theorem ok_byte {x : UInt8} (h : x = 45 ∨ x = 32 ∨ (48 ≤ x.toNat ∧ x.toNat ≤ 57)) : x ≠ 10 ∧ x ≠ 35 := by
  rcases h with rfl | rfl | ⟨h1, h2⟩
  · decide
  · decide
  · constructor
    · rintro rfl; exact absurd h1 (by decide)
    · rintro rfl; exact absurd h1 (by decide)
theorem okL_num (n : Int) : okL (numT n) := fun x hx => ok_byte (num_bytes hx)
theorem okL_itoa (n : Int) : okL (Lib.itoa n) := fun x hx => ok_byte (itoa_bytes hx)
theorem okL_no {l : List UInt8} (h : okL l) : (10 : UInt8) ∉ l := fun hm => (h 10 hm).1 rfl
theorem words_ok {l : List UInt8} (h : okL l) : wordsS l = wordsK [] l := by
  unfold wordsS
  rw [cutA_miss fun hm => (h 35 hm).2 rfl]
def v1T : List UInt8 := [110, 111, 100, 101, 32, 110]
def v2T (a : Int) : List UInt8 := [108, 101, 116, 32, 97, 32, 61, 32] ++ numT a
def v3T (b c d : Int) : List UInt8 := [108, 101, 116, 32, 118, 32, 61, 32, 97, 42, 40] ++ (numT b ++ ([45] ++ (numT c ++ ([41, 32, 43, 32] ++ (numT d ++ ([32, 42, 32, 45, 97, 32, 45, 32] ++ (numT b ++ [32, 42, 32, 50])))))))
def v4T (v : Int) : List UInt8 := [116, 105, 109, 101, 114, 32, 104, 111, 108, 100, 32, 61, 32, 118, 32, 45, 32, 40] ++ (Lib.itoa v ++ [41, 32, 43, 32, 57])
theorem ok1 : okL v1T := by unfold okL v1T; decide
theorem ok2 (a : Int) : okL (v2T a) := okL_app (by unfold okL; decide) (okL_num a)
theorem ok3 (b c d : Int) : okL (v3T b c d) := okL_app (by unfold okL; decide) (okL_app (okL_num b) (okL_app (by unfold okL; decide) (okL_app (okL_num c) (okL_app (by unfold okL; decide) (okL_app (okL_num d) (okL_app (by unfold okL; decide) (okL_app (okL_num b) (by unfold okL; decide))))))))
theorem ok4 (v : Int) : okL (v4T v) := okL_app (by unfold okL; decide) (okL_app (okL_itoa v) (by unfold okL; decide))
def kHold : List UInt8 := [104, 111, 108, 100]
theorem words1 : wordsS v1T = [kNode, [110]] := by rw [words_ok ok1]; rfl
theorem words2 (a : Int) : wordsS (v2T a) = kLet :: kA :: kEq :: numW a := by
  rw [words_ok (ok2 a)]
  have e : ∀ r, wordsK [] ([108, 101, 116, 32, 97, 32, 61, 32] ++ r) = kLet :: kA :: kEq :: wordsK [] r := fun r => rfl
  have h := words_num a (r := []) (.inl rfl)
  rw [List.append_nil, show wordsK [] [] = [] from rfl, List.append_nil] at h
  unfold v2T
  rw [e, h]
theorem words3 (b c d : Int) : wordsS (v3T b c d) = kLet :: kV :: kEq :: kA :: oStar :: oOpen :: (numW b ++ oMinus :: (numW c ++ oClose :: oPlus :: (numW d ++ oStar :: oMinus :: kA :: oMinus :: (numW b ++ [oStar, [50]])))) := by
  rw [words_ok (ok3 b c d)]
  have e1 : ∀ r, wordsK [] ([108, 101, 116, 32, 118, 32, 61, 32, 97, 42, 40] ++ r) = kLet :: kV :: kEq :: kA :: oStar :: oOpen :: wordsK [] r := fun r => rfl
  have e2 : ∀ r, wordsK [] ([45] ++ r) = oMinus :: wordsK [] r := fun r => rfl
  have e3 : ∀ r, wordsK [] ([41, 32, 43, 32] ++ r) = oClose :: oPlus :: wordsK [] r := fun r => rfl
  have e4 : ∀ r, wordsK [] ([32, 42, 32, 45, 97, 32, 45, 32] ++ r) = oStar :: oMinus :: kA :: oMinus :: wordsK [] r := fun r => rfl
  have e5 : wordsK [] [32, 42, 32, 50] = [oStar, [50]] := rfl
  unfold v3T
  rw [e1, words_num b (opens_app _ _ rfl), e2, words_num c (opens_app _ _ rfl), e3, words_num d (opens_app _ _ rfl), e4, words_num b (opens_cons _ rfl), e5]
theorem words4 (v : Int) : wordsS (v4T v) = kTimer :: kHold :: kEq :: kV :: oMinus :: oOpen :: (numW v ++ [oClose, oPlus, [57]]) := by
  rw [words_ok (ok4 v)]
  have e1 : ∀ r, wordsK [] ([116, 105, 109, 101, 114, 32, 104, 111, 108, 100, 32, 61, 32, 118, 32, 45, 32, 40] ++ r) = kTimer :: kHold :: kEq :: kV :: oMinus :: oOpen :: wordsK [] r := fun r => rfl
  have e2 : wordsK [] [41, 32, 43, 32, 57] = [oClose, oPlus, [57]] := rfl
  unfold v4T
  rw [e1, words_itoa v (opens_cons _ rfl), e2]
/-- A line 'let'. -/
theorem let_line {x : List UInt8} (hx : namedB x = true) {dry : Bool} {c : Cf} {r : List (List UInt8)} {n : Int} (hl : lookS c.sym x = none) (he : exprS dry c.sym r = .ok (n, [])) : lineS dry c (kLet :: x :: kEq :: r) = .ok (if dry = true then c else { c with sym := c.sym ++ [(x, (3, n))] }) := by
  rw [lineS, if_neg (show ¬ kLet = kNode by decide), if_neg (show ¬ kLet = kLink by decide), if_pos rfl]
  unfold letS
  simp only [nameS, if_pos hx, bindS, expectS, if_true, he, hl, Option.isSome_none]
  cases dry <;> rfl
def cV1 : Cf := { c0 with sym := [([110], (1, 0))], names := [[110]], ov := [false] }
def cV2 (a : Int) : Cf := { cV1 with sym := cV1.sym ++ [(kA, (3, a))] }
def cV3 (a v : Int) : Cf := { cV2 a with sym := (cV2 a).sym ++ [(kV, (3, v))] }
def cV4 (a v : Int) : Cf := { cV3 a v with giv := [false, false, false, false, true], tm := [10, 35, 5, 20, 9] }
theorem node_line (dry : Bool) : lineS dry c0 [kNode, [110]] = .ok (if dry = true then c0 else cV1) := by cases dry <;> rfl
theorem hold_line {dry : Bool} {a v : Int} {r : List (List UInt8)} (he : exprS dry (cV3 a v).sym r = .ok (9, [])) : lineS dry (cV3 a v) (kTimer :: kHold :: kEq :: r) = .ok (if dry = true then cV3 a v else cV4 a v) := by
  rw [lineS, if_neg (show ¬ kTimer = kNode by decide), if_neg (show ¬ kTimer = kLink by decide), if_neg (show ¬ kTimer = kLet by decide), if_neg (show ¬ kTimer = kPrefix by decide), if_neg (show ¬ kTimer = kPolicy by decide), if_neg (show ¬ kTimer = kDemand by decide), if_pos rfl]
  unfold timerS
  have hi : idxS tNames kHold 0 = 4 := by decide
  simp only [nextS, bindS, hi, timerB, timerK, expectS, if_true, valueS, he]
  cases dry <;> rfl
def valT (a b c d : Int) : List UInt8 := v1T ++ 10 :: (v2T a ++ 10 :: (v3T b c d ++ 10 :: (v4T (wantV a b c d) ++ [10])))
theorem want_in {a b c d : Int} (ha : in16 a) (hb : in16 b) (hc : in16 c) (hd : in16 d) : -4294967296 ≤ wantV a b c d ∧ wantV a b c d ≤ 4294967296 := by
  unfold in16 at *
  have e1 : -(32768 * 65536 : Nat) ≤ a * (b - c) ∧ a * (b - c) ≤ (32768 * 65536 : Nat) := mul_in (by omega) (by omega)
  have e2 : -(32768 * 32768 : Nat) ≤ d * -a ∧ d * -a ≤ (32768 * 32768 : Nat) := mul_in (by omega) (by omega)
  unfold wantV
  omega
/-- What the law's text means. -/
theorem values_plain {a b c d : Int} (ha : in16 a) (hb : in16 b) (hc : in16 c) (hd : in16 d) : ∃ x, parseC (valT a b c d) = .ok x ∧ x.tm = [10, 35, 5, 20, 9] := by
  have hw := want_in ha hb hc hd
  refine ⟨cV4 a (wantV a b c d), ?_, rfl⟩
  have hs : splitK 10 [] (valT a b c d) = [v1T, v2T a, v3T b c d, v4T (wantV a b c d), []] := by
    unfold valT
    rw [splitK_hit (okL_no ok1), splitK_hit (okL_no (ok2 a)), splitK_hit (okL_no (ok3 b c d)), splitK_hit (okL_no (ok4 _)), splitK_miss (by simp)]
    simp only [List.append_nil]
  have g1 : ∀ dry, lineS dry c0 (wordsS v1T) = .ok (if dry = true then c0 else cV1) := fun dry => by rw [words1]; exact node_line dry
  have g2 : ∀ dry, lineS dry cV1 (wordsS (v2T a)) = .ok (if dry = true then cV1 else cV2 a) := fun dry => by
    rw [words2]
    exact let_line (by decide) (by decide) (expr_one dry _ a (by unfold in16 at ha; omega))
  have g3 : ∀ dry, lineS dry (cV2 a) (wordsS (v3T b c d)) = .ok (if dry = true then cV2 a else cV3 a (wantV a b c d)) := fun dry => by
    rw [words3]
    exact let_line (by decide) rfl (expr_val dry _ ha hb hc hd rfl)
  have g4 : ∀ dry, lineS dry (cV3 a (wantV a b c d)) (wordsS (v4T (wantV a b c d))) = .ok (if dry = true then cV3 a (wantV a b c d) else cV4 a (wantV a b c d)) := fun dry => by
    rw [words4]
    exact hold_line (expr_hold dry _ (by omega) (by omega) rfl)
  have n1 : ¬ wordsS v1T = [] := by rw [words1]; simp
  have n2 : ¬ wordsS (v2T a) = [] := by rw [words2]; simp
  have n3 : ¬ wordsS (v3T b c d) = [] := by rw [words3]; simp
  have n4 : ¬ wordsS (v4T (wantV a b c d)) = [] := by rw [words4]; simp
  have f1 : lineS false c0 (wordsS v1T) = .ok cV1 := g1 false
  have f2 : lineS false cV1 (wordsS (v2T a)) = .ok (cV2 a) := g2 false
  have f3 : lineS false (cV2 a) (wordsS (v3T b c d)) = .ok (cV3 a (wantV a b c d)) := g3 false
  have f4 : lineS false (cV3 a (wantV a b c d)) (wordsS (v4T (wantV a b c d))) = .ok (cV4 a (wantV a b c d)) := g4 false
  unfold parseC
  rw [hs, parseL_go n1 (g1 true) f1, parseL_go n2 (g2 true) f2, parseL_go n3 (g3 true) f3, parseL_go n4 (g4 true) f4, parseL_skip rfl]
  rfl

end Go.Proofs.YtpofbhaipeiegaaGreatDoor
