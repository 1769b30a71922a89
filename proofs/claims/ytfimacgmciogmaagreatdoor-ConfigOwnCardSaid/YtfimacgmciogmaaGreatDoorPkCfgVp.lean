/-
  The value of the expression that ConfigValues writes (plain).
  What config's parser reads is valid: an invariant of its plain law.
  The words of a printed line.
-/
import Derived.Test.YtfimacgmciogmaaGreatDoorPkCfgSp
import Derived.Test.YtfimacgmciogmaaGreatDoorPkPrnD
namespace Go.Proofs.YtfimacgmciogmaaGreatDoor
set_option linter.unusedSimpArgs false
set_option linter.unusedVariables false
open Go.RowKit Go.Shelf Go.Sort
theorem dig_nosep {x : UInt8} (h1 : 48 ≤ x.toNat) (h2 : x.toNat ≤ 57) : (symB x || spcB x) = false := by
 have : ∀ c : UInt8, (c.toNat < 48 ∨ 57 < c.toNat) → (x == c) = false := fun c hc => by
  rw [beq_eq_false_iff_ne]; rintro rfl; omega
 simp only [symB, spcB, this 61 (by decide), this 40 (by decide), this 41 (by decide), this 43 (by decide), this 45 (by decide), this 42 (by decide), this 60 (by decide), this 62 (by decide), this 32 (by decide), this 9 (by decide), Bool.or_self]
theorem dec_nosep {u : Nat} {x : UInt8} (h : x ∈ Lib.decDigits u) : (symB x || spcB x) = false := dig_nosep (dec_digits u x h).1 (dec_digits u x h).2
theorem wordsK_run : ∀ (ds u r : List UInt8), (∀ x ∈ ds, (symB x || spcB x) = false) → wordsK u (ds ++ r) = wordsK (u ++ ds) r
 | [], u, r, _ => by simp
 | x :: ds, u, r, h => by
  rw [List.cons_append, wordsK, h x (by simp), if_neg (by decide), wordsK_run ds (u ++ [x]) r (fun y hy => h y (by simp [hy]))]; simp
/-- What may stand behind a word: nothing, or a byte that parts. -/
def opens (r : List UInt8) : Prop := r = [] ∨ ∃ x q, r = x :: q ∧ (symB x || spcB x) = true
theorem wordsK_open {u : List UInt8} (hu : u ≠ []) {r : List UInt8} (hr : opens r) : wordsK u r = u :: wordsK [] r := by
 rcases hr with rfl | ⟨x, q, rfl, hx⟩
 ·simp [wordsK, hu]
 ·rw [wordsK, if_pos hx, if_neg hu, wordsK, if_pos hx, if_pos rfl]; simp
theorem wordsK_word {ds r : List UInt8} (hd : ds ≠ []) (h : ∀ x ∈ ds, (symB x || spcB x) = false) (hr : opens r) : wordsK [] (ds ++ r) = ds :: wordsK [] r := by
 rw [wordsK_run ds [] r h, List.nil_append, wordsK_open hd hr]
theorem wordsK_dec (u : Nat) {r : List UInt8} (hr : opens r) : wordsK [] (Lib.decDigits u ++ r) = Lib.decDigits u :: wordsK [] r := wordsK_word (dec_ne u) (fun x hx => dec_nosep hx) hr
theorem opens_cons {x : UInt8} (q : List UInt8) (hx : (symB x || spcB x) = true) : opens (x :: q) := .inr ⟨x, q, rfl, hx⟩
theorem wordsK_sym {x : UInt8} (q : List UInt8) (hx : symB x = true) (hs : spcB x = false) : wordsK [] (x :: q) = [x] :: wordsK [] q := by
 rw [wordsK, if_pos (by rw [hx]; rfl), if_pos rfl, if_neg (by rw [hs]; decide)]; rfl
theorem wordsK_spc {x : UInt8} (q : List UInt8) (hs : spcB x = true) : wordsK [] (x :: q) = wordsK [] q := by
 rw [wordsK, if_pos (by rw [hs]; simp), if_pos rfl, if_pos hs]; rfl
def numW (n : Int) : List (List UInt8) := if n < 0 then [oMinus, Lib.decDigits n.natAbs] else [Lib.decDigits n.natAbs]
theorem words_itoa (n : Int) {r : List UInt8} (hr : opens r) : wordsK [] (Lib.itoa n ++ r) = numW n ++ wordsK [] r := by
 unfold Lib.itoa numW
 by_cases h : n < 0
 ·rw [if_pos h, if_pos h, List.cons_append, wordsK_sym _ rfl rfl, wordsK_dec _ hr]; rfl
 ·rw [if_neg h, if_neg h, wordsK_dec _ hr, show n.toNat = n.natAbs by omega]; rfl
theorem itoa_bytes {n : Int} {x : UInt8} (h : x ∈ Lib.itoa n) : x = 45 ∨ x = 32 ∨ (48 ≤ x.toNat ∧ x.toNat ≤ 57) := by
 unfold Lib.itoa at h
 split at h
 ·simp only [List.mem_cons] at h
  rcases h with h | h
  ·exact .inl h
  ·exact .inr (.inr (dec_digits _ x h))
 ·exact .inr (.inr (dec_digits _ x h))
/-! A number is read. -/
theorem dec_head : ∀ u : Nat, 10 ≤ u → (Lib.decDigits u).head? ≠ some 48 := by
 intro u
 induction u using Nat.strongRecOn with
 | _ u ih =>
  intro h
  rw [dec_big (by omega), List.head?_append]
  by_cases h2 : u / 10 < 10
  ·rw [dec_small h2]
   simp only [List.head?_cons, Option.some_or, ne_eq, Option.some.injEq]
   intro e
   have := congrArg UInt8.toNat e
   rw [digit_toNat h2] at this
   have h3 : (48 : UInt8).toNat = 48 := rfl
   omega
  ·have := ih (u / 10) (by omega) (by omega)
   cases hd : (Lib.decDigits (u / 10)).head? with
   | none => rw [List.head?_eq_none_iff] at hd; exact absurd hd (dec_ne _)
   | some v => rw [hd] at this; simpa using this
theorem dec_digitsB {u : Nat} (h : u < 1000000000000) : digitsB (Lib.decDigits u) = true := by
 have h1 := dec_len 11 u (by omega)
 have h2 : (Lib.decDigits u).all digB = true := List.all_eq_true.2 fun x hx => by
  have := dec_digits u x hx
  simp [digB, this.1, this.2]
 have h3 : (Lib.decDigits u).isEmpty = false := by
  cases hd : Lib.decDigits u with
  | nil => exact absurd hd (dec_ne u)
  | cons a b => rfl
 have h4 : (decide (1 < (Lib.decDigits u).length) && decide ((Lib.decDigits u).head? = some 48)) = false := by
  by_cases h5 : u < 10
  ·rw [dec_small h5]; rfl
  ·rw [decide_eq_false (dec_head u (by omega)), Bool.and_false]
 unfold digitsB
 rw [h2, h3, h4, decide_eq_true (by omega)]
 rfl
theorem dec_notin {u : Nat} {c : UInt8} (hc : c.toNat < 48 ∨ 57 < c.toNat) : Lib.decDigits u ≠ [c] := by
 intro e
 have := dec_digits u c (by rw [e]; simp)
 omega
theorem dec_atoi {u : Nat} (h : u < 1000000000000) : atoiS (Lib.decDigits u) = (u : Int) := by
 unfold atoiS
 rw [atoi_dec (by omega)]
theorem factor_dec (dry : Bool) (sy : SymS) {u : Nat} (h : u < 1000000000000) (r ops : List (List UInt8)) (vs : List Int) : factorS dry sy (Lib.decDigits u :: r) ops vs = .ok ((ops, (u : Int) :: vs), r) := by
 rw [factorS, if_neg (show Lib.decDigits u ≠ oOpen from dec_notin (by decide)), if_neg (show Lib.decDigits u ≠ oMinus from dec_notin (by decide)), if_pos (dec_digitsB h), dec_atoi h]
/-- What follows a factor. -/
def post (dry : Bool) (sy : SymS) (f : Nat) (o1 : List (List UInt8)) (v1 : List Int) (r1 : List (List UInt8)) : PR Int :=
   match closeS dry r1 o1 v1 with
   | .error e => .error e
   | .ok ((o2, v2), r2) =>
    if rankS (peekS r2) = 0 then (match endS dry o2 v2 with | .ok v => .ok (v, r2) | .error e => .error e)
    else (match combineS dry (rankS (peekS r2)) o2 v2 with
     | .error e => .error e
     | .ok (o3, v3) => exprF dry sy f (r2.drop 1) (peekS r2 :: o3) v3)
theorem exprF_post {dry : Bool} {sy : SymS} {f : Nat} {ws ops o1 r1 : List (List UInt8)} {vs v1 : List Int} (h : factorS dry sy ws ops vs = .ok ((o1, v1), r1)) : exprF dry sy (f + 1) ws ops vs = post dry sy f o1 v1 r1 := by
 rw [exprF, h]; rfl
theorem rank_le (w : List UInt8) : rankS w ≤ 3 := by
 unfold rankS
 split
 ·omega
 ·split
  ·omega
  ·split <;> omega
theorem wrap_small {n : Int} (h : -4611686018427387904 ≤ n ∧ n ≤ 4611686018427387904) : wrap64 n = n := by
 unfold wrap64; omega
theorem combine_neg (dry : Bool) {k : Nat} (hk : k ≤ 3) (ops : List (List UInt8)) (n : Int) (vs : List Int) (hn : -4611686018427387904 ≤ n ∧ n ≤ 4611686018427387904) : combineS dry k (oNeg :: ops) (-n :: vs) = combineS dry k ops (n :: vs) := by
 rw [combineS, if_neg (by have : rankS oNeg = 3 := rfl; omega), if_pos rfl]
 rw [show wrap64 (- -n) = n by rw [Int.neg_neg]; exact wrap_small hn]
theorem openS_neg (ops : List (List UInt8)) : openS (oNeg :: ops) = openS ops := by
 unfold openS
 have : oOpen ≠ oNeg := by decide
 simp [List.mem_cons, this]
theorem post_neg (dry : Bool) (sy : SymS) (f : Nat) (ops : List (List UInt8)) (n : Int) (vs : List Int) (r : List (List UInt8)) (hn : -4611686018427387904 ≤ n ∧ n ≤ 4611686018427387904) : post dry sy f (oNeg :: ops) (-n :: vs) r = post dry sy f ops (n :: vs) r := by
 unfold post
 have key : ∀ r2 : List (List UInt8), (if rankS (peekS r2) = 0 then (match endS dry (oNeg :: ops) (-n :: vs) with | .ok v => Except.ok (v, r2) | .error e => .error e)
    else (match combineS dry (rankS (peekS r2)) (oNeg :: ops) (-n :: vs) with
     | .error e => .error e
     | .ok (o3, v3) => exprF dry sy f (r2.drop 1) (peekS r2 :: o3) v3)) = (if rankS (peekS r2) = 0 then (match endS dry ops (n :: vs) with | .ok v => Except.ok (v, r2) | .error e => .error e)
    else (match combineS dry (rankS (peekS r2)) ops (n :: vs) with
     | .error e => .error e
     | .ok (o3, v3) => exprF dry sy f (r2.drop 1) (peekS r2 :: o3) v3)) := fun r2 => by
  rw [combine_neg dry (rank_le _) ops n vs hn]
  unfold endS
  rw [combine_neg dry (by omega) ops n vs hn]
 cases r with
 | nil => simp only [closeS]; exact key []
 | cons w r =>
  by_cases hw : openS ops = true ∧ w = oClose
  ·simp only [closeS, openS_neg, if_pos hw, combine_neg dry (show 1 ≤ 3 by omega) ops n vs hn]
  ·simp only [closeS, openS_neg, if_neg hw]; exact key (w :: r)
theorem exprF_num (dry : Bool) (sy : SymS) (f : Nat) (n : Int) (r ops : List (List UInt8)) (vs : List Int) (hn : n.natAbs < 1000000000000) : exprF dry sy (f + 1) (numW n ++ r) ops vs = post dry sy f ops (n :: vs) r := by
 unfold numW
 by_cases h : n < 0
 ·rw [if_pos h]
  have h1 : factorS dry sy ([oMinus, Lib.decDigits n.natAbs] ++ r) ops vs = .ok ((oNeg :: ops, -n :: vs), r) := by
   rw [List.cons_append, factorS, if_neg (by decide), if_pos rfl]
   show factorS dry sy (Lib.decDigits n.natAbs :: r) (oNeg :: ops) vs = _
   rw [factor_dec dry sy hn, show ((n.natAbs : Nat) : Int) = -n by omega]
  rw [exprF_post h1, post_neg _ _ _ _ _ _ _ (by omega)]
 ·rw [if_neg h]
  have h1 : factorS dry sy ([Lib.decDigits n.natAbs] ++ r) ops vs = .ok ((ops, n :: vs), r) := by
   show factorS dry sy (Lib.decDigits n.natAbs :: r) ops vs = _
   rw [factor_dec dry sy hn, show ((n.natAbs : Nat) : Int) = n by omega]
  rw [exprF_post h1]
theorem combine_nil {dry : Bool} {k : Nat} {vs : List Int} : combineS dry k [] vs = .ok ([], vs) := by unfold combineS; rfl
/-! The text, its lines, their words. -/
def okL (l : List UInt8) : Prop := ∀ x ∈ l, x ≠ 10 ∧ x ≠ 35
theorem okL_app {x y : List UInt8} (hx : okL x) (hy : okL y) : okL (x ++ y) := fun b hb => by
 rcases List.mem_append.1 hb with h | h
 ·exact hx b h
 ·exact hy b h
theorem ok_byte {x : UInt8} (h : x = 45 ∨ x = 32 ∨ (48 ≤ x.toNat ∧ x.toNat ≤ 57)) : x ≠ 10 ∧ x ≠ 35 := by
 rcases h with rfl | rfl | ⟨h1, h2⟩
 ·decide
 ·decide
 ·constructor
  ·rintro rfl; exact absurd h1 (by decide)
  ·rintro rfl; exact absurd h1 (by decide)
theorem okL_itoa (n : Int) : okL (Lib.itoa n) := fun x hx => ok_byte (itoa_bytes hx)
theorem okL_no {l : List UInt8} (h : okL l) : (10 : UInt8) ∉ l := fun hm => (h 10 hm).1 rfl
theorem words_ok {l : List UInt8} (h : okL l) : wordsS l = wordsK [] l := by
 unfold wordsS
 rw [cutA_miss fun hm => (h 35 hm).2 rfl]
end Go.Proofs.YtfimacgmciogmaaGreatDoor
namespace Go.Proofs.YtfimacgmciogmaaGreatDoor
set_option linter.unusedSimpArgs false
set_option linter.unusedVariables false
open Go.RowKit Go.Sort Go.Shelf
theorem lookS_app (x : List UInt8) (p : Int × Int) (y : List UInt8) : ∀ sy : SymS, lookS (sy ++ [(x, p)]) y = (match lookS sy y with | some z => some z | none => if x = y then some p else none)
 | [] => by simp [lookS]
 | (n, z) :: r => by
  rw [List.cons_append, lookS, lookS]
  by_cases h : n = y
  ·rw [if_pos h, if_pos h]
  ·rw [if_neg h, if_neg h]; exact lookS_app x p y r
theorem look_old {sy : SymS} {x y : List UInt8} {p z : Int × Int} (h : lookS sy y = some z) : lookS (sy ++ [(x, p)]) y = some z := by rw [lookS_app, h]
theorem look_new {sy : SymS} {x : List UInt8} {p : Int × Int} (h : lookS sy x = none) : lookS (sy ++ [(x, p)]) x = some p := by rw [lookS_app, h]; simp
theorem look_inv {sy : SymS} {x y : List UInt8} {p z : Int × Int} (h : lookS (sy ++ [(x, p)]) y = some z) : lookS sy y = some z ∨ (x = y ∧ p = z ∧ lookS sy y = none) := by
 rw [lookS_app] at h
 cases hl : lookS sy y with
 | some u => rw [hl] at h; exact .inl h
 | none =>
  rw [hl] at h
  by_cases e : x = y
  ·simp only [if_pos e] at h; injection h with h; exact .inr ⟨e, h, rfl⟩
  ·simp only [if_neg e] at h; cases h
/-- The first word of a segment that is a name, as it is printed. -/
def headW (c : Cf) (s : Int × Int) : List UInt8 := if s.1 = 1 then getN c.names s.2 else if s.1 = 2 then getN c.lnames (s.2 / 2) else []
/-- No name 'negation' behind a number. -/
def negOk (c : Cf) : List (Int × Int) → Prop
 | [] => True
 | s :: r => ((s.1 = 3 ∨ s.1 = 4) → ∀ t, r.head? = some t → headW c t ≠ oNeg) ∧ negOk c r
/-- What holds of a configuration that has been read so far. -/
structure CI (c : Cf) : Prop where
 s1 : ∀ (k : Nat) x, c.names[k]? = some x → lookS c.sym x = some (1, (k : Int))
 s2 : ∀ (k : Nat) x, c.lnames[k]? = some x → lookS c.sym x = some (2, (k : Int))
 s3 : ∀ x v, lookS c.sym x = some (1, v) → ∃ k : Nat, v = (k : Int) ∧ c.names[k]? = some x
 s4 : ∀ x v, lookS c.sym x = some (2, v) → ∃ k : Nat, v = (k : Int) ∧ c.lnames[k]? = some x
 nm : ∀ x ∈ c.names ++ c.lnames, namedB x = true
 n64 : c.names.length ≤ 64
 l256 : c.lnames.length ≤ 256
 lk : c.lnames.length = c.links.length
 kk : ∀ l ∈ c.links, lnkOk (c.names.length : Int) l = true
 ov : c.ov.length = c.names.length
 xk : c.xk = c.pfx.map fkey
 xn : (c.pfx.map fkey).Nodup
 pv : ∀ p ∈ c.pfx, (pvalB p.1 p.2.1 = true ∧ (0 ≤ p.1 ∧ p.1 < 4294967296) ∧ inI p.2.1 ∧ pparseS (ptextS p.1 p.2.1) = some (p.1, p.2.1)) ∧ 0 ≤ p.2.2 ∧ p.2.2 < (c.names.length : Int)
 pc : ∀ v, (c.pfx.map (·.2.2)).count v ≤ 64
 yk : c.yk = c.pols.map pkey
 yn : (c.pols.map pkey).Nodup
 pb : ∀ p ∈ c.pols, polB (c.names.length : Int) c.links.length p = true ∧ negOk c p.2.2
 p64 : c.pols.length ≤ 64
 dm : ∀ d ∈ c.dems, demB (c.names.length : Int) d = true
 d64 : c.dems.length ≤ 64
 tl : c.tm.length = 5
 tm : ∀ k, k < 5 → 1 ≤ c.tm.getD k 0 ∧ c.tm.getD k 0 ≤ 65536
 gl : c.giv.length = 5
theorem ci0 : CI c0 := by
 refine ⟨?_, ?_, ?_, ?_, ?_, ?_, ?_, rfl, ?_, rfl, rfl, ?_, ?_, ?_, rfl, ?_, ?_, ?_, ?_, ?_, rfl, ?_, rfl⟩
 ·intro k x h; simp [c0] at h
 ·intro k x h; simp [c0] at h
 ·intro x v h; simp [c0, lookS] at h
 ·intro x v h; simp [c0, lookS] at h
 ·intro x h; simp [c0] at h
 ·simp [c0]
 ·simp [c0]
 ·intro l h; simp [c0] at h
 ·simp [c0]
 ·intro p h; simp [c0] at h
 ·intro v; simp [c0]
 ·simp [c0]
 ·intro p h; simp [c0] at h
 ·simp [c0]
 ·intro p h; simp [c0] at h
 ·simp [c0]
 ·intro k hk
  rcases (by omega : k = 0 ∨ k = 1 ∨ k = 2 ∨ k = 3 ∨ k = 4) with rfl | rfl | rfl | rfl | rfl <;> decide
/-! What the parser's parts say when they succeed. -/
theorem eff_ok {dup full : Bool} {r : List (List UInt8)} {c c' x : Cf} (h : effS (finP false dup full r) c c' = .ok x) : x = c' ∧ dup = false ∧ full = false ∧ r = [] := by
 cases r with
 | cons _ _ => cases h
 | nil =>
  cases dup <;> cases full <;> simp [finP, effS] at h
  exact ⟨h.symm, rfl, rfl, rfl⟩
theorem name_ok {ws r : List (List UInt8)} {x : List UInt8} (h : nameS ws = .ok (x, r)) : ws = x :: r ∧ namedB x = true := by
 cases ws with
 | nil => cases h
 | cons y q =>
  rw [nameS] at h
  by_cases e : namedB y = true
  ·rw [if_pos e] at h; injection h with h; injection h with h1 h; rw [← h1, h]; exact ⟨rfl, e⟩
  ·rw [if_neg e] at h; cases h
theorem use_ok {sy : SymS} {kd v : Int} {ws r : List (List UInt8)} (h : useS false sy kd ws = .ok (v, r)) : ∃ x, ws = x :: r ∧ namedB x = true ∧ lookS sy x = some (kd, v) := by
 cases ws with
 | nil => cases h
 | cons y q =>
  rw [useS] at h
  by_cases e : namedB y = true
  ·rw [if_pos e] at h
   cases hl : lookS sy y with
   | none => rw [hl] at h; simp [useOf] at h
   | some p =>
    obtain ⟨k, u⟩ := p
    rw [hl] at h
    by_cases hk : k = kd
    ·simp [useOf, hk] at h
     exact ⟨y, by rw [h.2], e, by rw [hl, hk, h.1]⟩
    ·simp [useOf, hk] at h
  ·rw [if_neg e] at h; cases h
theorem expr_rank {dry : Bool} {sy : SymS} : ∀ (f : Nat) {ws ops : List (List UInt8)} {vs : List Int} {v : Int} {r : List (List UInt8)}, exprF dry sy f ws ops vs = .ok (v, r) → rankS (peekS r) = 0
 | 0, _, _, _, _, _, h => by cases h
 | f + 1, ws, ops, vs, v, r, h => by
  rw [exprF] at h
  split at h
  ·cases h
  ·split at h
   ·cases h
   ·split at h
    ·rename_i hr
     split at h
     ·injection h with h; injection h with _ h; rw [← h]; exact hr
     ·cases h
    ·split at h
     ·cases h
     ·exact expr_rank f h
theorem value_ok {sy : SymS} {lo hi v : Int} {ws r : List (List UInt8)} (h : valueS false sy lo hi ws = .ok (v, r)) : (lo ≤ v ∧ v ≤ hi) ∧ rankS (peekS r) = 0 := by
 rw [valueS] at h
 split at h
 ·cases h
 ·rename_i v' r' he
  split at h
  ·cases h
  ·rename_i hb
   injection h with h
   injection h with h1 h2
   subst h1 h2
   refine ⟨?_, expr_rank _ he⟩
   by_cases hh : lo ≤ v' ∧ v' ≤ hi
   ·exact hh
   ·exact absurd ⟨rfl, hh⟩ hb
theorem ends_ok {sy : SymS} {ws r : List (List UInt8)} {a b : Int} (h : endsS false sy ws = .ok ((a, b), r)) : ∃ x y, lookS sy x = some (1, a) ∧ lookS sy y = some (1, b) ∧ a ≠ b := by
 obtain ⟨_, r1, _, h⟩ := bind_ok h
 obtain ⟨a', r2, h1, h⟩ := bind_ok h
 obtain ⟨_, r3, _, h⟩ := bind_ok h
 obtain ⟨b', r4, h2, h⟩ := bind_ok h
 obtain ⟨x, _, _, hx⟩ := use_ok h1
 obtain ⟨y, _, _, hy⟩ := use_ok h2
 by_cases e : a' = b'
 ·subst e; simp [bindC, chkS] at h
 ·have e2 : (a' != b') = true := by simpa using e
  simp only [bindC, chkS, e2, Bool.true_eq_false, and_false, if_false, Except.ok.injEq, Prod.mk.injEq] at h
  obtain ⟨⟨rfl, rfl⟩, _⟩ := h
  exact ⟨x, y, hx, hy, e⟩
theorem wB_of {x lo hi : Int} (h : lo ≤ x ∧ x ≤ hi) : wB x lo hi = true := wB_iff.2 h
theorem lnkOk_iff {n : Int} {l : Lnk} : lnkOk n l = true ↔ l.a ≠ l.b ∧ (0 ≤ l.a ∧ l.a ≤ n - 1) ∧ (0 ≤ l.b ∧ l.b ≤ n - 1) ∧ (1 ≤ l.c0 ∧ l.c0 ≤ 65535) ∧ (1 ≤ l.c1 ∧ l.c1 ≤ 65535) ∧ (0 ≤ l.cap ∧ l.cap ≤ 1048576) ∧ (1 ≤ l.dl ∧ l.dl ≤ 65536) ∧ (0 ≤ l.g ∧ l.g ≤ 64) := by
 simp only [lnkOk, Bool.and_eq_true, inR_true, Bool.not_eq_true', beq_eq_false_iff_ne, and_assoc, ne_eq]
theorem lnkOk_mono {n m : Int} {l : Lnk} (h : lnkOk n l = true) (hm : n ≤ m) : lnkOk m l = true := by
 rw [lnkOk_iff] at h ⊢
 obtain ⟨h0, h1, h2, h3⟩ := h
 exact ⟨h0, by omega, by omega, h3⟩
theorem segB_mono {n n' : Int} {m m' : Nat} {s : Int × Int} (h : segB n m s = true) (hn : n ≤ n') (hm : m ≤ m') : segB n' m' s = true := by
 rcases segB_cases h with ⟨h1, h2⟩ | ⟨h1, h2⟩ | ⟨h1, h2⟩ | ⟨h1, h2⟩ <;> simp only [segB, h1] <;> simp [wB] <;> omega
theorem polB_iff {n : Int} {m : Nat} {p : Int × Int × List (Int × Int)} : polB n m p = true ↔ (0 ≤ p.1 ∧ p.1 ≤ n - 1) ∧ (0 ≤ p.2.1 ∧ p.2.1 ≤ 65535) ∧ p.2.2.length ≤ 32 ∧ ∀ s ∈ p.2.2, segB n m s = true := by
 simp only [polB, Bool.and_eq_true, wB_iff, decide_eq_true_eq, List.all_eq_true]
theorem polB_mono {n n' : Int} {m m' : Nat} {p : Int × Int × List (Int × Int)} (h : polB n m p = true) (hn : n ≤ n') (hm : m ≤ m') : polB n' m' p = true := by
 rw [polB_iff] at h ⊢
 obtain ⟨h1, h2, h3, h4⟩ := h
 exact ⟨by omega, h2, h3, fun s hs => segB_mono (h4 s hs) hn hm⟩
theorem demB_iff {n : Int} {d : Int × Int × Int × Int} : demB n d = true ↔ d.1 ≠ d.2.1 ∧ (0 ≤ d.1 ∧ d.1 ≤ n - 1) ∧ (0 ≤ d.2.1 ∧ d.2.1 ≤ n - 1) ∧ (1 ≤ d.2.2.1 ∧ d.2.2.1 ≤ 1048576) ∧ (0 ≤ d.2.2.2 ∧ d.2.2.2 ≤ 7) := by
 simp only [demB, Bool.and_eq_true, wB_iff, Bool.not_eq_true', beq_eq_false_iff_ne, ne_eq]
theorem demB_mono {n n' : Int} {d : Int × Int × Int × Int} (h : demB n d = true) (hn : n ≤ n') : demB n' d = true := by
 rw [demB_iff] at h ⊢
 obtain ⟨h0, h1, h2, h3⟩ := h
 exact ⟨h0, by omega, by omega, h3⟩
theorem getN_app {l m : List (List UInt8)} {i : Int} (h0 : 0 ≤ i) (h : i < (l.length : Int)) : getN (l ++ m) i = getN l i := by
 simp only [getN, List.getD_eq_getElem?_getD]
 rw [List.getElem?_append_left (by omega)]
theorem headW_app {c c' : Cf} {a b : List (List UInt8)} (hn : c'.names = c.names ++ a) (hl : c'.lnames = c.lnames ++ b) {s : Int × Int} (hs : segB (c.names.length : Int) c.lnames.length s = true) : headW c' s = headW c s := by
 rcases segB_cases hs with ⟨h1, h2, h3⟩ | ⟨h1, h2, h3⟩ | ⟨h1, h2⟩ | ⟨h1, h2⟩
 ·simp only [headW, h1, if_pos]; rw [hn, getN_app h2 h3]
 ·simp only [headW, h1]; simp only [show ¬ (2 : Int) = 1 by decide, if_false, if_true]; rw [hl, getN_app (by omega) (by omega)]
 ·simp [headW, h1]
 ·simp [headW, h1]
theorem negOk_app {c c' : Cf} {a b : List (List UInt8)} (hn : c'.names = c.names ++ a) (hl : c'.lnames = c.lnames ++ b) : ∀ {l : List (Int × Int)}, (∀ s ∈ l, segB (c.names.length : Int) c.lnames.length s = true) → negOk c l → negOk c' l
 | [], _, _ => trivial
 | s :: r, hs, h => by
  refine ⟨fun h3 t ht => ?_, negOk_app hn hl (fun x hx => hs x (by simp [hx])) h.2⟩
  have hm : t ∈ r := by
   cases r with
   | nil => cases ht
   | cons u q => simp at ht; subst ht; simp
  rw [headW_app hn hl (hs t (by simp [hm]))]
  exact h.1 h3 t ht
theorem nodup_snoc {α : Type} {l : List α} {x : α} (h : l.Nodup) (hx : x ∉ l) : (l ++ [x]).Nodup := by
 rw [List.nodup_append]
 exact ⟨h, by simp, fun a ha b hb e => by simp at hb; subst hb; subst e; exact hx ha⟩
/-! The statements keep it. -/
theorem isSome_f {α : Type} {o : Option α} (h : o.isSome = false) : o = none := by cases o <;> simp_all
theorem ci_node {c c' : Cf} {ws : List (List UInt8)} (h : CI c) (hs : nodeS false c ws = .ok c') : CI c' := by
 rw [nodeS] at hs
 split at hs
 ·cases hs
 ·rename_i x r hx
  obtain ⟨rfl, hd, hf, _⟩ := eff_ok hs
  have hd := isSome_f hd
  have hl : c.names.length ≠ 64 := of_decide_eq_false hf
  have h64 := h.n64
  have hnx := (name_ok hx).2
  have hn : ((c.names ++ [x]).length : Int) = (c.names.length : Int) + 1 := by simp
  refine ⟨?_, ?_, ?_, ?_, ?_, ?_, h.l256, h.lk, ?_, ?_, h.xk, h.xn, ?_, h.pc, h.yk, h.yn, ?_, h.p64, ?_, h.d64, h.tl, h.tm, h.gl⟩
  ·intro k y hy
   simp only at hy ⊢
   by_cases hk : k < c.names.length
   ·rw [List.getElem?_append_left hk] at hy
    exact look_old (h.s1 k y hy)
   ·rw [List.getElem?_append_right (by omega)] at hy
    have hk2 : k - c.names.length = 0 := by
     have := (List.getElem?_eq_some_iff.1 hy).1
     simp at this
     exact this
    rw [hk2] at hy
    simp at hy
    subst hy
    rw [show k = c.names.length by omega]
    exact look_new hd
  ·intro k y hy; exact look_old (h.s2 k y hy)
  ·intro y v hy
   rcases look_inv hy with hy | ⟨rfl, e, _⟩
   ·obtain ⟨k, hk, hk2⟩ := h.s3 y v hy
    exact ⟨k, hk, by simp only; rw [List.getElem?_append_left (List.getElem?_eq_some_iff.1 hk2).1]; exact hk2⟩
   ·injection e with _ e
    exact ⟨c.names.length, e.symm, by simp⟩
  ·intro y v hy
   rcases look_inv hy with hy | ⟨rfl, e, _⟩
   ·exact h.s4 y v hy
   ·injection e with e _; cases e
  ·intro y hy
   simp only [List.mem_append, List.mem_cons, List.not_mem_nil, or_false] at hy
   rcases hy with (hy | rfl) | hy
   ·exact h.nm y (by simp [hy])
   ·exact hnx
   ·exact h.nm y (by simp [hy])
  ·simp only [List.length_append, List.length_cons, List.length_nil]; omega
  ·intro l hl2; simp only; rw [hn]; exact lnkOk_mono (h.kk l hl2) (by omega)
  ·simp only [List.length_append, List.length_cons, List.length_nil]; rw [h.ov]
  ·intro p hp; simp only; rw [hn]; have := h.pv p hp; exact ⟨this.1, this.2.1, by omega⟩
  ·intro p hp
   have hpb := h.pb p hp
   refine ⟨by simp only; rw [hn]; exact polB_mono hpb.1 (by omega) (Nat.le_refl _), negOk_app (c := c) (a := [x]) (b := []) rfl (by simp) ?_ hpb.2⟩
   rw [h.lk]
   exact (polB_iff.1 hpb.1).2.2.2
  ·intro d hd2; simp only; rw [hn]; exact demB_mono (h.dm d hd2) (by omega)
theorem ci_let {c c' : Cf} {ws : List (List UInt8)} (h : CI c) (hs : letS false c ws = .ok c') : CI c' := by
 obtain ⟨x, r1, hx, hs⟩ := bind_ok hs
 obtain ⟨_, r2, _, hs⟩ := bind_ok hs
 obtain ⟨n, r3, _, hs⟩ := bind_ok hs
 obtain ⟨rfl, hd, _, _⟩ := eff_ok hs
 have hd := isSome_f hd
 refine { h with s1 := ?_, s2 := ?_, s3 := ?_, s4 := ?_, pb := ?_ }
 ·intro k y hy; exact look_old (h.s1 k y hy)
 ·intro k y hy; exact look_old (h.s2 k y hy)
 ·intro y v hy
  rcases look_inv hy with hy | ⟨rfl, e, _⟩
  ·exact h.s3 y v hy
  ·injection e with e _; cases e
 ·intro y v hy
  rcases look_inv hy with hy | ⟨rfl, e, _⟩
  ·exact h.s4 y v hy
  ·injection e with e _; cases e
 ·intro p hp
  have hpb := h.pb p hp
  exact ⟨hpb.1, negOk_app (c := c) (a := []) (b := []) (by simp) (by simp) (by rw [h.lk]; exact (polB_iff.1 hpb.1).2.2.2) hpb.2⟩
theorem name_at {c : Cf} (h : CI c) {x : List UInt8} {v : Int} (hx : lookS c.sym x = some (1, v)) : (0 ≤ v ∧ v ≤ (c.names.length : Int) - 1) ∧ getN c.names v = x := by
 obtain ⟨k, rfl, hk⟩ := h.s3 x v hx
 have := (List.getElem?_eq_some_iff.1 hk).1
 exact ⟨by omega, by simp [getN, List.getD_eq_getElem?_getD, hk]⟩
theorem lname_at {c : Cf} (h : CI c) {x : List UInt8} {v : Int} (hx : lookS c.sym x = some (2, v)) : (0 ≤ v ∧ v ≤ (c.lnames.length : Int) - 1) ∧ getN c.lnames v = x := by
 obtain ⟨k, rfl, hk⟩ := h.s4 x v hx
 have := (List.getElem?_eq_some_iff.1 hk).1
 exact ⟨by omega, by simp [getN, List.getD_eq_getElem?_getD, hk]⟩
/-- The ranges of a link's numbers. -/
def optOk (l : Lnk) : Prop := (1 ≤ l.c0 ∧ l.c0 ≤ 65535) ∧ (1 ≤ l.c1 ∧ l.c1 ≤ 65535) ∧ (0 ≤ l.cap ∧ l.cap ≤ 1048576) ∧ (1 ≤ l.dl ∧ l.dl ≤ 65536) ∧ (0 ≤ l.g ∧ l.g ≤ 64)
theorem opts_ok {sy : SymS} : ∀ (f : Nat) {seen ws r : List (List UInt8)} {l l' : Lnk}, optsS false sy f seen l ws = .ok (l', r) → optOk l → optOk l' ∧ l'.a = l.a ∧ l'.b = l.b
 | 0, _, _, _, _, _, h, _ => by cases h
 | f + 1, seen, [], r, l, l', h, ho => by
  simp only [optsS, Except.ok.injEq, Prod.mk.injEq] at h
  obtain ⟨rfl, _⟩ := h
  exact ⟨ho, rfl, rfl⟩
 | f + 1, seen, w :: q, r, l, l', h, ho => by
  obtain ⟨o1, o2, o3, o4, o5⟩ := ho
  rw [optsS] at h
  split at h
  ·cases h
  split at h
  ·obtain ⟨v, q1, hv, h⟩ := bind_ok h
   have hv := (value_ok hv).1
   split at h
   ·obtain ⟨u, q3, hu, h⟩ := bind_ok h
    have hu := (value_ok hu).1
    have h2 := opts_ok f h ⟨hv, hu, o3, o4, o5⟩
    exact h2
   ·have h2 := opts_ok f h ⟨hv, hv, o3, o4, o5⟩
    exact h2
  split at h
  ·obtain ⟨v, q1, hv, h⟩ := bind_ok h
   have h2 := opts_ok f h ⟨o1, o2, (value_ok hv).1, o4, o5⟩
   exact h2
  split at h
  ·obtain ⟨v, q1, hv, h⟩ := bind_ok h
   have h2 := opts_ok f h ⟨o1, o2, o3, (value_ok hv).1, o5⟩
   exact h2
  split at h
  ·obtain ⟨v, q1, hv, h⟩ := bind_ok h
   have h2 := opts_ok f h ⟨o1, o2, o3, o4, (value_ok hv).1⟩
   exact h2
  ·cases h
theorem ci_link {c c' : Cf} {ws : List (List UInt8)} (h : CI c) (hs : linkS false c ws = .ok c') : CI c' := by
 obtain ⟨x, r1, hx, hs⟩ := bind_ok hs
 obtain ⟨⟨a, b⟩, r2, he, hs⟩ := bind_ok hs
 obtain ⟨l, r3, ho, hs⟩ := bind_ok hs
 obtain ⟨rfl, hd, hf, _⟩ := eff_ok hs
 have hd := isSome_f hd
 have hl : c.lnames.length ≠ 256 := of_decide_eq_false hf
 have h256 := h.l256
 have hnx := (name_ok hx).2
 obtain ⟨ya, yb, hya, hyb, hne⟩ := ends_ok he
 have ha := (name_at h hya).1
 have hb := (name_at h hyb).1
 obtain ⟨ho1, ho2, ho3⟩ := opts_ok _ ho ⟨by simp, by simp, by simp, by simp, by simp⟩
 simp only at ho2 ho3
 refine { h with s1 := ?_, s2 := ?_, s3 := ?_, s4 := ?_, nm := ?_, l256 := ?_, lk := ?_, kk := ?_, pb := ?_ }
 ·intro k y hy; exact look_old (h.s1 k y hy)
 ·intro k y hy
  simp only at hy ⊢
  by_cases hk : k < c.lnames.length
  ·rw [List.getElem?_append_left hk] at hy
   exact look_old (h.s2 k y hy)
  ·rw [List.getElem?_append_right (by omega)] at hy
   have hk2 : k - c.lnames.length = 0 := by
    have := (List.getElem?_eq_some_iff.1 hy).1
    simp at this
    exact this
   rw [hk2] at hy
   simp at hy
   subst hy
   rw [show k = c.lnames.length by omega]
   exact look_new hd
 ·intro y v hy
  rcases look_inv hy with hy | ⟨rfl, e, _⟩
  ·exact h.s3 y v hy
  ·injection e with e _; cases e
 ·intro y v hy
  rcases look_inv hy with hy | ⟨rfl, e, _⟩
  ·obtain ⟨k, hk, hk2⟩ := h.s4 y v hy
   exact ⟨k, hk, by simp only; rw [List.getElem?_append_left (List.getElem?_eq_some_iff.1 hk2).1]; exact hk2⟩
  ·injection e with _ e
   exact ⟨c.lnames.length, e.symm, by simp⟩
 ·intro y hy
  simp only [List.mem_append, List.mem_cons, List.not_mem_nil, or_false] at hy
  rcases hy with hy | hy | rfl
  ·exact h.nm y (by simp [hy])
  ·exact h.nm y (by simp [hy])
  ·exact hnx
 ·simp only [List.length_append, List.length_cons, List.length_nil]; omega
 ·simp only [List.length_append, List.length_cons, List.length_nil]; rw [h.lk]
 ·intro y hy
  simp only [List.mem_append, List.mem_cons, List.not_mem_nil, or_false] at hy
  rcases hy with hy | rfl
  ·exact h.kk y hy
  ·exact lnkOk_iff.2 ⟨by rw [ho2, ho3]; exact hne, by rw [ho2]; exact ha, by rw [ho3]; exact hb, ho1⟩
 ·intro p hp
  have hpb := h.pb p hp
  refine ⟨polB_mono hpb.1 (Int.le_refl _) (by simp), negOk_app (c := c) (a := []) (b := [x]) (by simp) rfl (by rw [h.lk]; exact (polB_iff.1 hpb.1).2.2.2) hpb.2⟩
theorem cnt_eq (n : Int) (l : List (Int × Int × Int)) : (l.map (·.2.2)).count n = cntP n l := by
 induction l with
 | nil => rfl
 | cons p r ih =>
  rw [List.map_cons, List.count_cons, ih]
  unfold cntP
  rw [List.filter_cons]
  by_cases h : (p.2.2 == n) = true
  ·rw [if_pos h, if_pos h]; simp
  ·rw [if_neg h, if_neg h]; simp
theorem ci_prefix {c c' : Cf} {ws : List (List UInt8)} (h : CI c) (hs : prefixS false c ws = .ok c') : CI c' := by
 obtain ⟨w, r1, hw, hs⟩ := bind_ok hs
 split at hs
 ·cases hs
 ·rename_i x y hp
  obtain ⟨_, r2, _, hs⟩ := bind_ok hs
  obtain ⟨n, r3, hu, hs⟩ := bind_ok hs
  obtain ⟨rfl, hd, hf, _⟩ := eff_ok hs
  have hd : (x, y) ∉ c.xk := of_decide_eq_false hd
  have hf : cntP n c.pfx ≠ 64 := of_decide_eq_false hf
  obtain ⟨z, _, _, hz⟩ := use_ok hu
  have hn := (name_at h hz).1
  obtain ⟨i1, i2, i3, i4⟩ := pparse_in hp
  refine { h with xk := ?_, xn := ?_, pv := ?_, pc := ?_, pb := ?_ }
  ·simp only [List.map_append]; rw [h.xk]; rfl
  ·simp only [List.map_append]
   refine nodup_snoc h.xn ?_
   rw [← h.xk]; exact hd
  ·intro p hp2
   simp only [List.mem_append, List.mem_cons, List.not_mem_nil, or_false] at hp2
   rcases hp2 with hp2 | rfl
   ·exact h.pv p hp2
   ·exact ⟨⟨i3, i1, i2, by simp only; rw [i4]; exact hp⟩, hn.1, by simp only; omega⟩
  ·intro v
   have h1 := h.pc v
   simp only [List.map_append, List.map_cons, List.map_nil, List.count_append, List.count_singleton]
   by_cases e : n = v
   ·subst e
    have h2 := cnt_eq n c.pfx
    simp
    omega
   ·have e2 : (n == v) = false := by simpa using e
    rw [e2]; simpa using h1
  ·intro p hp
   exact ⟨(h.pb p hp).1, negOk_app (c := c) (a := []) (b := []) (by simp) (by simp) (by rw [h.lk]; exact (polB_iff.1 (h.pb p hp).1).2.2.2) (h.pb p hp).2⟩
theorem negOk_snoc {c : Cf} {g : Int × Int} : ∀ {l : List (Int × Int)}, negOk c l → (∀ s, l.getLast? = some s → (s.1 = 3 ∨ s.1 = 4) → headW c g ≠ oNeg) → negOk c (l ++ [g])
 | [], _, _ => ⟨fun _ t ht => by simp at ht, trivial⟩
 | [s], h, hl => ⟨fun h3 t ht => by simp at ht; subst ht; exact hl s rfl h3, fun _ t ht => by simp at ht, trivial⟩
 | s :: t :: r, h, hl => ⟨fun h3 u hu => h.1 h3 u (by simpa using hu), negOk_snoc (l := t :: r) h.2 (fun u hu h3 => hl u (by rw [List.getLast?_cons_cons]; exact hu) h3)⟩
theorem rank_ne {w : List UInt8} (h : rankS w = 0) : w ≠ oNeg := by
 intro e; subst e; exact absurd h (by decide)
theorem seg_ok {c : Cf} (h : CI c) {ws r : List (List UInt8)} {g : Int × Int} (hs : segS false c.sym ws = .ok (g, r)) :
  segB (c.names.length : Int) c.lnames.length g = true ∧ ((g.1 = 3 ∨ g.1 = 4) → rankS (peekS r) = 0) ∧ ((g.1 = 1 ∨ g.1 = 2) → headW c g = peekS ws) := by
 have h256 := h.l256
 have nodeCase : ∀ {q : List (List UInt8)}, q = ws → (bindS (useS false c.sym 1 q) fun a r1 => (.ok ((1, a), r1) : PR (Int × Int))) = .ok (g, r) → segB (c.names.length : Int) c.lnames.length g = true ∧ ((g.1 = 3 ∨ g.1 = 4) → rankS (peekS r) = 0) ∧ ((g.1 = 1 ∨ g.1 = 2) → headW c g = peekS ws) := by
  rintro q rfl hq
  obtain ⟨a, r1, hu, hq⟩ := bind_ok hq
  simp only [Except.ok.injEq, Prod.mk.injEq] at hq
  obtain ⟨rfl, rfl⟩ := hq
  obtain ⟨x, rfl, _, hx⟩ := use_ok hu
  obtain ⟨h1, h2⟩ := name_at h hx
  refine ⟨by simp only [segB, if_pos]; exact wB_of h1, fun h3 => by simp at h3, fun _ => by simp only [headW, if_pos]; rw [h2]; rfl⟩
 have arcCase : ∀ {q : List (List UInt8)}, q = ws → (bindS (useS false c.sym 2 q) fun a r1 => bindS (nextS r1) fun w r2 => (.ok ((2, if w = [60] then wrap64 (wrap64 (2 * a) + 1) else wrap64 (2 * a)), r2) : PR (Int × Int))) = .ok (g, r) → segB (c.names.length : Int) c.lnames.length g = true ∧ ((g.1 = 3 ∨ g.1 = 4) → rankS (peekS r) = 0) ∧ ((g.1 = 1 ∨ g.1 = 2) → headW c g = peekS ws) := by
  rintro q rfl hq
  obtain ⟨a, r1, hu, hq⟩ := bind_ok hq
  obtain ⟨w, r2, hw, hq⟩ := bind_ok hq
  simp only [Except.ok.injEq, Prod.mk.injEq] at hq
  obtain ⟨rfl, rfl⟩ := hq
  obtain ⟨x, rfl, _, hx⟩ := use_ok hu
  obtain ⟨h1, h2⟩ := lname_at h hx
  have e : ∃ m, (if w = [60] then wrap64 (wrap64 (2 * a) + 1) else wrap64 (2 * a)) = m ∧ 0 ≤ m ∧ m ≤ 2 * (c.lnames.length : Int) - 1 ∧ m / 2 = a := by
   refine ⟨_, rfl, ?_⟩
   split <;> (unfold wrap64; omega)
  obtain ⟨m, em, e1, e2, e3⟩ := e
  rw [em]
  refine ⟨by simp only [segB, show ¬ (2 : Int) = 1 by decide, if_false, if_true]; exact wB_of ⟨e1, e2⟩, fun h3 => by simp at h3, fun _ => by simp only [headW, show ¬ (2 : Int) = 1 by decide, if_false, if_true]; rw [e3, h2]; rfl⟩
 cases ws with
 | nil =>
  simp only [segS, acceptS, secB, Bool.false_eq_true, if_false] at hs
  exact nodeCase rfl hs
 | cons x t =>
  rw [segS] at hs
  by_cases ha : x = kAny
  ·simp only [acceptS, if_pos ha] at hs
   obtain ⟨n, r1, hv, hs⟩ := bind_ok hs
   simp only [Except.ok.injEq, Prod.mk.injEq] at hs
   obtain ⟨rfl, rfl⟩ := hs
   obtain ⟨h1, h2⟩ := value_ok hv
   exact ⟨by simp only [segB, show ¬ (3 : Int) = 1 by decide, show ¬ (3 : Int) = 2 by decide, if_false, if_true]; exact wB_of h1, fun _ => h2, fun h3 => by simp at h3⟩
  ·simp only [acceptS, if_neg ha] at hs
   by_cases hb : x = kBind
   ·simp only [if_pos hb] at hs
    obtain ⟨n, r1, hv, hs⟩ := bind_ok hs
    simp only [Except.ok.injEq, Prod.mk.injEq] at hs
    obtain ⟨rfl, rfl⟩ := hs
    obtain ⟨h1, h2⟩ := value_ok hv
    exact ⟨by simp only [segB, show ¬ (4 : Int) = 1 by decide, show ¬ (4 : Int) = 2 by decide, show ¬ (4 : Int) = 3 by decide, if_false, if_true]; exact wB_of h1, fun _ => h2, fun h3 => by simp at h3⟩
   ·simp only [if_neg hb] at hs
    split at hs
    ·exact arcCase rfl hs
    ·exact nodeCase rfl hs
theorem segs_ok {c : Cf} (h : CI c) : ∀ (f : Nat) {l l' : List (Int × Int)} {ws r : List (List UInt8)}, segsS false c.sym f l ws = .ok (l', r) → (∀ s ∈ l, segB (c.names.length : Int) c.lnames.length s = true) → negOk c l →
  (∀ s, l.getLast? = some s → (s.1 = 3 ∨ s.1 = 4) → rankS (peekS ws) = 0) → (∀ s ∈ l', segB (c.names.length : Int) c.lnames.length s = true) ∧ negOk c l'
 | 0, _, _, _, _, hs, _, _, _ => by cases hs
 | f + 1, l, l', [], r, hs, h1, h2, _ => by
  simp only [segsS, Except.ok.injEq, Prod.mk.injEq] at hs
  obtain ⟨rfl, _⟩ := hs
  exact ⟨h1, h2⟩
 | f + 1, l, l', w :: t, r, hs, h1, h2, h3 => by
  rw [segsS] at hs
  obtain ⟨g, q, hg, hs⟩ := bind_ok hs
  obtain ⟨g1, g2, g3⟩ := seg_ok h hg
  refine segs_ok h f hs ?_ ?_ ?_
  ·intro s hsm
   rcases List.mem_append.1 hsm with hsm | hsm
   ·exact h1 s hsm
   ·simp at hsm; subst hsm; exact g1
  ·refine negOk_snoc h2 (fun s hsl hs3 => ?_)
   have hr := h3 s hsl hs3
   rcases segB_cases g1 with ⟨k, _⟩ | ⟨k, _⟩ | ⟨k, _⟩ | ⟨k, _⟩
   ·rw [g3 (.inl k)]; exact rank_ne hr
   ·rw [g3 (.inr k)]; exact rank_ne hr
   ·simp [headW, k, oNeg]
   ·simp [headW, k, oNeg]
  ·intro s hsl hs3
   rw [List.getLast?_concat] at hsl
   injection hsl with hsl
   subst hsl
   exact g2 hs3
theorem ci_policy {c c' : Cf} {ws : List (List UInt8)} (h : CI c) (hs : policyS false c ws = .ok c') : CI c' := by
 obtain ⟨a, r1, hu, hs⟩ := bind_ok hs
 obtain ⟨b, r2, hb, hs⟩ := bind_ok hs
 obtain ⟨_, r3, _, hs⟩ := bind_ok hs
 obtain ⟨l, r4, hl, hs⟩ := bind_ok hs
 obtain ⟨rfl, hd, hf, _⟩ := eff_ok hs
 have hd : (a, b) ∉ c.yk := of_decide_eq_false hd
 rw [Bool.or_eq_false_iff, decide_eq_false_iff_not, decide_eq_false_iff_not] at hf
 obtain ⟨z, _, _, hz⟩ := use_ok hu
 have hn := (name_at h hz).1
 have hbv := (value_ok hb).1
 obtain ⟨l1, l2⟩ := segs_ok h _ hl (by simp) trivial (by simp)
 have h64 := h.p64
 refine { h with yk := ?_, yn := ?_, pb := ?_, p64 := ?_ }
 ·simp only [List.map_append]; rw [h.yk]; rfl
 ·simp only [List.map_append]
  refine nodup_snoc h.yn ?_
  rw [← h.yk]; exact hd
 ·intro p hp
  simp only [List.mem_append, List.mem_cons, List.not_mem_nil, or_false] at hp
  rcases hp with hp | rfl
  ·have := h.pb p hp
   exact ⟨this.1, negOk_app (c := c) (a := []) (b := []) (by simp) (by simp) (by rw [h.lk]; exact (polB_iff.1 this.1).2.2.2) this.2⟩
  ·refine ⟨polB_iff.2 ⟨hn, hbv, by simp only; omega, by rw [← h.lk]; exact l1⟩, negOk_app (c := c) (a := []) (b := []) (by simp) (by simp) l1 l2⟩
 ·simp only [List.length_append, List.length_cons, List.length_nil]; omega
theorem ci_demand {c c' : Cf} {ws : List (List UInt8)} (h : CI c) (hs : demandS false c ws = .ok c') : CI c' := by
 obtain ⟨⟨a, b⟩, r1, he, hs⟩ := bind_ok hs
 obtain ⟨_, r2, _, hs⟩ := bind_ok hs
 obtain ⟨n, r3, hn, hs⟩ := bind_ok hs
 obtain ⟨q, r4, hq, hs⟩ := bind_ok hs
 obtain ⟨rfl, _, hf, _⟩ := eff_ok hs
 have hf : c.dems.length ≠ 64 := of_decide_eq_false hf
 obtain ⟨ya, yb, hya, hyb, hne⟩ := ends_ok he
 have ha := (name_at h hya).1
 have hb := (name_at h hyb).1
 have hnv := (value_ok hn).1
 have hqv : 0 ≤ q ∧ q ≤ 7 := by
  rw [prioS] at hq
  split at hq
  ·exact (value_ok hq).1
  ·simp only [Except.ok.injEq, Prod.mk.injEq] at hq; omega
 have h64 := h.d64
 refine { h with dm := ?_, d64 := ?_, pb := ?_ }
 ·intro p hp
  exact ⟨(h.pb p hp).1, negOk_app (c := c) (a := []) (b := []) (by simp) (by simp) (by rw [h.lk]; exact (polB_iff.1 (h.pb p hp).1).2.2.2) (h.pb p hp).2⟩
 ·intro d hd
  simp only [List.mem_append, List.mem_cons, List.not_mem_nil, or_false] at hd
  rcases hd with hd | rfl
  ·exact h.dm d hd
  ·exact demB_iff.2 ⟨hne, ha, hb, hnv, hqv⟩
 ·simp only [List.length_append, List.length_cons, List.length_nil]; omega
theorem ci_timer {c c' : Cf} {ws : List (List UInt8)} (h : CI c) (hs : timerS false c ws = .ok c') : CI c' := by
 obtain ⟨w, r1, _, hs⟩ := bind_ok hs
 rw [timerB] at hs
 split at hs
 ·cases hs
 ·rename_i hi
  obtain ⟨_, r2, _, hs⟩ := bind_ok hs
  obtain ⟨n, r3, hn, hs⟩ := bind_ok hs
  obtain ⟨rfl, _, _, _⟩ := eff_ok hs
  have hnv := (value_ok hn).1
  have hk : (idxS tNames w 0).toNat < 5 := by
   have := idx_cases w
   omega
  refine { h with tl := ?_, tm := ?_, gl := ?_, pb := ?_ }
  ·intro p hp
   exact ⟨(h.pb p hp).1, negOk_app (c := c) (a := []) (b := []) (by simp) (by simp) (by rw [h.lk]; exact (polB_iff.1 (h.pb p hp).1).2.2.2) (h.pb p hp).2⟩
  ·simp only [List.length_set]; exact h.tl
  ·intro j hj
   simp only
   rw [getD_set _ _ _ _ _ (by rw [h.tl]; exact hk)]
   split
   ·exact hnv
   ·exact h.tm j hj
  ·simp only [List.length_set]; exact h.gl
theorem ci_line {c c' : Cf} {ws : List (List UInt8)} (h : CI c) (hs : lineS false c ws = .ok c') : CI c' := by
 cases ws with
 | nil => cases hs
 | cons w r =>
  rw [lineS] at hs
  split at hs
  ·exact ci_node h hs
  split at hs
  ·exact ci_link h hs
  split at hs
  ·exact ci_let h hs
  split at hs
  ·exact ci_prefix h hs
  split at hs
  ·exact ci_policy h hs
  split at hs
  ·exact ci_demand h hs
  split at hs
  ·exact ci_timer h hs
  ·cases hs
theorem ci_lines : ∀ (ls : List (List UInt8)) (k : Nat) {c c' : Cf}, CI c → parseL ls k c = .ok c' → CI c'
 | [], k, c, c', h, hs => by rw [parseL] at hs; injection hs with hs; rw [← hs]; exact h
 | l :: r, k, c, c', h, hs => by
  rw [parseL] at hs
  split at hs
  ·exact ci_lines r _ h hs
  ·split at hs
   ·cases hs
   ·split at hs
    ·cases hs
    ·rename_i c2 h2
     exact ci_lines r _ (ci_line h h2) hs
theorem parse_ci {s : List UInt8} {c : Cf} (h : parseC s = .ok c) : CI c ∧ c.names ≠ [] := by
 rw [parseC] at h
 split at h
 ·cases h
 ·rename_i c2 h2
  split at h
  ·cases h
  ·rename_i hn
   injection h with h
   subst h
   exact ⟨ci_lines _ _ ci0 h2, hn⟩
theorem nmK_iff : ∀ {l seen : List (List UInt8)}, nmK seen l = true ↔ (∀ x ∈ l, namedB x = true) ∧ (∀ x ∈ l, x ∉ seen) ∧ l.Nodup
 | [], seen => by simp [nmK]
 | y :: r, seen => by
  simp only [nmK, Bool.and_eq_true, Bool.not_eq_true', decide_eq_false_iff_not, nmK_iff (l := r), List.nodup_cons]
  constructor
  ·rintro ⟨h1, h2, h3, h4, h5⟩
   refine ⟨fun x hx => ?_, fun x hx => ?_, fun hm => h4 y hm (by simp), h5⟩
   ·rcases List.mem_cons.1 hx with rfl | hx
    ·exact h1
    ·exact h3 x hx
   ·rcases List.mem_cons.1 hx with rfl | hx
    ·exact h2
    ·exact fun hm => h4 x hx (by simp [hm])
  ·rintro ⟨h1, h2, h3, h4⟩
   refine ⟨h1 y (by simp), h2 y (by simp), fun x hx => h1 x (by simp [hx]), fun x hx hm => ?_, h4⟩
   rcases List.mem_append.1 hm with hm | hm
   ·exact h2 x (by simp [hx]) hm
   ·simp at hm; subst hm; exact h3 hx
theorem polK_iff {n : Int} {m : Nat} : ∀ {ps : List (Int × Int × List (Int × Int))} {seen : List (Int × Int)}, polK n m seen ps = true ↔ (∀ p ∈ ps, polB n m p = true) ∧ (∀ p ∈ ps, pkey p ∉ seen) ∧ (ps.map pkey).Nodup
 | [], seen => by simp [polK]
 | q :: r, seen => by
  simp only [polK, Bool.and_eq_true, Bool.not_eq_true', decide_eq_false_iff_not, polK_iff (ps := r), List.map_cons, List.nodup_cons]
  constructor
  ·rintro ⟨h1, h2, h3, h4, h5⟩
   refine ⟨fun x hx => ?_, fun x hx => ?_, fun hm => ?_, h5⟩
   ·rcases List.mem_cons.1 hx with rfl | hx
    ·exact h2
    ·exact h3 x hx
   ·rcases List.mem_cons.1 hx with rfl | hx
    ·exact h1
    ·exact fun hm => h4 x hx (by simp [hm])
   ·obtain ⟨p, hp, e⟩ := List.mem_map.1 hm
    exact h4 p hp (by rw [e]; simp [pkey])
  ·rintro ⟨h1, h2, h3, h4⟩
   refine ⟨h2 q (by simp), h1 q (by simp), fun x hx => h1 x (by simp [hx]), fun x hx hm => ?_, h4⟩
   rcases List.mem_append.1 hm with hm | hm
   ·exact h2 x (by simp [hx]) hm
   ·simp at hm
    exact h3 (List.mem_map.2 ⟨x, hx, by rw [hm]; rfl⟩)
theorem nodup_of_look {sy : SymS} {kd : Int} {l : List (List UInt8)} (h : ∀ (k : Nat) x, l[k]? = some x → lookS sy x = some (kd, (k : Int))) : l.Nodup := by
 rw [List.nodup_iff_pairwise_ne, List.pairwise_iff_getElem]
 intro i j hi hj hij e
 have h1 := h i l[i] (List.getElem?_eq_getElem hi)
 have h2 := h j l[j] (List.getElem?_eq_getElem hj)
 rw [e] at h1
 rw [h1] at h2
 injection h2 with h2
 injection h2 with _ h2
 omega
theorem ci_cfg {c : Cf} (h : CI c) (hne : c.names ≠ []) : cfgB (c.names.length : Int) (ovC c) = true := by
 have hpos := List.length_pos_iff.2 hne
 have h64 := h.n64
 have hlk := h.lk
 have h256 := h.l256
 have e1 : valid (topOf (c.names.length : Int) (ovC c)) = true := by
  have e2 : ((ovC c).ov.length = 0) ∨ ((ovC c).ov.length = c.names.length) := by
   unfold ovC
   by_cases hb : true ∈ c.ov
   ·simp only [if_pos hb]; exact .inr h.ov
   ·simp only [if_neg hb]; exact .inl rfl
  simp only [valid, topOf, Bool.and_eq_true, Bool.or_eq_true, decide_eq_true_eq, inR_true, List.all_eq_true]
  refine ⟨⟨⟨⟨by omega, by omega⟩, decide_eq_true (show c.links.length ≤ 256 by omega)⟩, ?_⟩, h.kk⟩
  rcases e2 with e2 | e2
  ·exact .inl (decide_eq_true e2)
  ·exact .inr (decide_eq_true (by show ((ovC c).ov.length : Int) = (c.names.length : Int); rw [e2]))
 have e3 : (decide ((ovC c).ov.length = 0) || decide (true ∈ (ovC c).ov)) = true := by
  unfold ovC
  by_cases hb : true ∈ c.ov
  ·rw [if_pos hb, decide_eq_true hb, Bool.or_true]
  ·rw [if_neg hb]; rfl
 have e4 : namesB (c.names ++ c.lnames) = true := by
  rw [namesB, nmK_iff]
  refine ⟨h.nm, by simp, ?_⟩
  rw [List.nodup_append]
  refine ⟨nodup_of_look h.s1, nodup_of_look h.s2, fun x hx y hy e => ?_⟩
  subst e
  obtain ⟨i, hi⟩ := List.mem_iff_getElem?.1 hx
  obtain ⟨j, hj⟩ := List.mem_iff_getElem?.1 hy
  have h1 := h.s1 i x hi
  rw [h.s2 j x hj] at h1
  injection h1 with h1
  injection h1 with h1 _
  cases h1
 have e5 : tmB c = true := by
  simp only [tmB, Bool.and_eq_true, wB_iff]
  exact ⟨h.tm 0 (by omega), h.tm 1 (by omega), h.tm 2 (by omega), h.tm 3 (by omega), h.tm 4 (by omega)⟩
 have e6 : prefsB (c.names.length : Int) c.pfx = true := by
  rw [prefsB, pfK_iff]
  refine ⟨fun p hp => ⟨(h.pv p hp).1.1, wB_of (by have := (h.pv p hp).2; omega)⟩, by simp, h.xn, fun v _ => ?_⟩
  rw [List.nil_append]; exact h.pc v
 have e7 : polsB (c.names.length : Int) c.links.length c.pols = true := by
  rw [polsB, Bool.and_eq_true, decide_eq_true_eq, polK_iff]
  exact ⟨h.p64, fun p hp => (h.pb p hp).1, by simp, h.yn⟩
 have e8 : demsB (c.names.length : Int) c.dems = true := by
  rw [demsB, Bool.and_eq_true, decide_eq_true_eq, List.all_eq_true]
  exact ⟨h.d64, h.dm⟩
 simp only [cfgB, Bool.and_eq_true]
 exact ⟨⟨e1, e3⟩, decide_eq_true rfl, decide_eq_true hlk, e4, e5, e6, e7, e8⟩
end Go.Proofs.YtfimacgmciogmaaGreatDoor
namespace Go.Proofs.YtfimacgmciogmaaGreatDoor
set_option linter.unusedSimpArgs false
set_option linter.unusedVariables false
open Go.RowKit Go.Sort Go.Shelf
/-- A text of one line, and its words: whatever stands behind it, if that parts. -/
def Wd (w : List UInt8) (ts : List (List UInt8)) : Prop := okL w ∧ ∀ r, opens r → wordsK [] (w ++ r) = ts ++ wordsK [] r
theorem opens_nil : opens [] := .inl rfl
theorem wd_words {w : List UInt8} {ts : List (List UInt8)} (h : Wd w ts) : wordsS w = ts := by
 rw [words_ok h.1]
 have := h.2 [] opens_nil
 simpa [wordsK] using this
theorem wd_plain {w : List UInt8} (hne : w ≠ []) (hs : ∀ x ∈ w, (symB x || spcB x) = false) (ho : okL w) : Wd w [w] :=
 ⟨ho, fun r hr => by rw [wordsK_word hne hs hr]; rfl⟩
theorem wd_itoa {n : Int} (h : 0 ≤ n) : Wd (Lib.itoa n) [Lib.decDigits n.natAbs] :=
 ⟨okL_itoa n, fun r hr => by rw [words_itoa n hr, numW, if_neg (by omega)]⟩
theorem wd_space {a b : List UInt8} {ta tb : List (List UInt8)} (ha : Wd a ta) (hb : Wd b tb) : Wd (a ++ 32 :: b) (ta ++ tb) := by
 refine ⟨okL_app ha.1 (fun x hx => ?_), fun r hr => ?_⟩
 ·rcases List.mem_cons.1 hx with rfl | hx
  ·exact ⟨by decide, by decide⟩
  ·exact hb.1 x hx
 ·rw [List.append_assoc, List.cons_append, ha.2 _ (opens_cons _ (by decide)), wordsK_spc _ (by decide), hb.2 r hr, List.append_assoc]
theorem wd_sym {a : List UInt8} {ta : List (List UInt8)} (ha : Wd a ta) {x : UInt8} (hx : symB x = true) (hs : spcB x = false) (ho : x ≠ 10 ∧ x ≠ 35) : Wd (a ++ [x]) (ta ++ [[x]]) := by
 refine ⟨okL_app ha.1 (fun y hy => ?_), fun r hr => ?_⟩
 ·simp at hy; subst hy; exact ho
 ·rw [List.append_assoc, List.singleton_append, ha.2 _ (opens_cons _ (by rw [hx]; rfl)), wordsK_sym _ hx hs, List.append_assoc]; rfl
theorem wd_one {x : UInt8} (hx : symB x = true) (hs : spcB x = false) (ho : x ≠ 10 ∧ x ≠ 35) : Wd [x] [[x]] := by
 refine ⟨fun y hy => by simp at hy; subst hy; exact ho, fun r hr => ?_⟩
 rw [List.singleton_append, wordsK_sym _ hx hs]; rfl
theorem wd_join : ∀ (l : List (List UInt8 × List (List UInt8))), l ≠ [] → (∀ p ∈ l, Wd p.1 p.2) → Wd (Lib.join (l.map Prod.fst) [32]) (l.flatMap Prod.snd)
 | [], h, _ => absurd rfl h
 | [p], _, h => by
  have := h p (by simp)
  simpa [Lib.join, List.intercalate] using this
 | p :: q :: r, _, h => by
  have h1 := wd_join (q :: r) (by simp) (fun x hx => h x (by simp only [List.mem_cons] at hx ⊢; exact .inr hx))
  have h2 := wd_space (h p (by simp)) h1
  have e : Lib.join ((p :: q :: r).map Prod.fst) [32] = p.1 ++ 32 :: Lib.join ((q :: r).map Prod.fst) [32] := by
   simp [Lib.join, List.intercalate]
  rw [e, List.flatMap_cons]
  exact h2
/-- Letters, digits, '_', '.', '/': what does not part words. -/
theorem ch_nosep {x : UInt8} (h : (97 ≤ x.toNat ∧ x.toNat ≤ 122) ∨ (48 ≤ x.toNat ∧ x.toNat ≤ 57) ∨ x.toNat = 95 ∨ x.toNat = 46 ∨ x.toNat = 47) : (symB x || spcB x) = false ∧ x ≠ 10 ∧ x ≠ 35 := by
 have key : ∀ c : UInt8, ¬ ((97 ≤ c.toNat ∧ c.toNat ≤ 122) ∨ (48 ≤ c.toNat ∧ c.toNat ≤ 57) ∨ c.toNat = 95 ∨ c.toNat = 46 ∨ c.toNat = 47) → x ≠ c := fun c hc e => by subst e; exact hc h
 have k2 : ∀ c : UInt8, ¬ ((97 ≤ c.toNat ∧ c.toNat ≤ 122) ∨ (48 ≤ c.toNat ∧ c.toNat ≤ 57) ∨ c.toNat = 95 ∨ c.toNat = 46 ∨ c.toNat = 47) → (x == c) = false := fun c hc => by rw [beq_eq_false_iff_ne]; exact key c hc
 refine ⟨?_, key 10 (by decide), key 35 (by decide)⟩
 simp only [symB, spcB, k2 61 (by decide), k2 40 (by decide), k2 41 (by decide), k2 43 (by decide), k2 45 (by decide), k2 42 (by decide), k2 60 (by decide), k2 62 (by decide), k2 32 (by decide), k2 9 (by decide), Bool.or_self]
theorem wd_chars {w : List UInt8} (hne : w ≠ []) (h : ∀ x ∈ w, (97 ≤ x.toNat ∧ x.toNat ≤ 122) ∨ (48 ≤ x.toNat ∧ x.toNat ≤ 57) ∨ x.toNat = 95 ∨ x.toNat = 46 ∨ x.toNat = 47) : Wd w [w] :=
 wd_plain hne (fun x hx => (ch_nosep (h x hx)).1) (fun x hx => (ch_nosep (h x hx)).2)
theorem named_parts {x : List UInt8} (h : namedB x = true) : x ≠ [] ∧ (∀ b ∈ x, (97 ≤ b.toNat ∧ b.toNat ≤ 122) ∨ (48 ≤ b.toNat ∧ b.toNat ≤ 57) ∨ b.toNat = 95) ∧ x ∉ keysS := by
 simp only [namedB, Bool.and_eq_true, Bool.not_eq_true', keyB, decide_eq_false_iff_not, List.all_eq_true, decide_eq_true_eq] at h
 obtain ⟨⟨⟨h1, h2⟩, h3⟩, h4⟩ := h
 refine ⟨?_, fun b hb => ?_, h4⟩
 ·rintro rfl; simp [headB] at h2
 ·have := h3 b hb
  simp only [chB, Bool.or_eq_true, Bool.and_eq_true, decide_eq_true_eq] at this
  omega
theorem wd_named {x : List UInt8} (h : namedB x = true) : Wd x [x] := by
 obtain ⟨h1, h2, _⟩ := named_parts h
 exact wd_chars h1 (fun b hb => by have := h2 b hb; omega)
theorem wd_key {w : List UInt8} (hne : w ≠ []) (h : (w.all fun b => decide (97 ≤ b.toNat ∧ b.toNat ≤ 122)) = true) : Wd w [w] :=
 wd_chars hne (fun b hb => by have := List.all_eq_true.1 h b hb; rw [decide_eq_true_eq] at this; exact .inl this)
theorem wd_eq : Wd kEq [kEq] := wd_one rfl rfl ⟨by decide, by decide⟩
/-- The octets of a prefix are no negative numbers. -/
theorem octV_nonneg (x : Int) (i : Nat) : 0 ≤ octV x i := by
 have h : bits BinOp.and IntKind.u32 (octA x i) 255 = ((BitVec.ofInt 32 (octA x i) &&& BitVec.ofInt 32 255).toNat : Int) := by
  have hw : ∀ Z : BitVec 32, IntKind.u32.wrap (Z.toNat : Int) = (Z.toNat : Int) := fun Z => by
   have := Z.isLt
   simp only [IntKind.wrap, IntKind.bits, IntKind.signed]
   simp
   omega
  exact hw _
 unfold octV
 rw [h]
 have := (BitVec.ofInt 32 (octA x i) &&& BitVec.ofInt 32 255).isLt
 unfold wrap64
 omega
theorem itoa_digits {n : Int} (h : 0 ≤ n) {b : UInt8} (hb : b ∈ Lib.itoa n) : 48 ≤ b.toNat ∧ b.toNat ≤ 57 := by
 unfold Lib.itoa at hb
 rw [if_neg (by omega)] at hb
 exact dec_digits _ b hb
theorem wd_ptext {x y : Int} (h : pvalB x y = true) : Wd (ptextS x y) [ptextS x y] := by
 have hy : 0 ≤ y := by
  unfold pvalB at h
  simp at h
  omega
 refine wd_chars ?_ (fun b hb => ?_)
 ·rw [ptextS, if_pos h]; simp
 ·rw [ptextS, if_pos h] at hb
  rcases List.mem_append.1 hb with hb | hb
  ·obtain ⟨i, _, hi⟩ := List.mem_flatMap.1 hb
   unfold octP at hi
   rcases List.mem_append.1 hi with hi | hi
   ·split at hi
    ·cases hi
    ·simp at hi; subst hi; exact .inr (.inr (.inr (.inl rfl)))
   ·exact .inr (.inl (itoa_digits (octV_nonneg x i) hi))
  ·rcases List.mem_cons.1 hb with rfl | hb
   ·exact .inr (.inr (.inr (.inr rfl)))
   ·exact .inr (.inl (itoa_digits hy hb))
/-- The words of a segment. -/
def segT2 (c : Cf) (s : Int × Int) : List (List UInt8) :=
 if s.1 = 1 then [getN c.names s.2] else if s.1 = 2 then [getN c.lnames (s.2 / 2), if s.2 % 2 = 0 then kGt else kLt] else if s.1 = 3 then [kAny, Lib.decDigits s.2.natAbs] else [kBind, Lib.decDigits s.2.natAbs]
theorem getN_mem {l : List (List UInt8)} {i : Int} (h0 : 0 ≤ i) (h1 : i < (l.length : Int)) : getN l i ∈ l := by
 obtain ⟨k, rfl⟩ : ∃ k : Nat, i = k := ⟨i.toNat, by omega⟩
 have hk : k < l.length := by omega
 simp [getN, List.getD_eq_getElem?_getD, hk]
theorem wd_seg {n : Int} {c : Cf} {s : Int × Int} (hn : n = (c.names.length : Int)) (hs : segB n c.lnames.length s = true) (hnm : ∀ x ∈ c.names ++ c.lnames, namedB x = true) : Wd (segTx c s) (segT2 c s) := by
 subst hn
 rcases segB_cases hs with ⟨h1, h2, h3⟩ | ⟨h1, h2, h3⟩ | ⟨h1, h2, h3⟩ | ⟨h1, h2, h3⟩
 ·simp only [segTx, segT2, h1, if_true]
  exact wd_named (hnm _ (List.mem_append.2 (.inl (getN_mem h2 h3))))
 ·simp only [segTx, segT2, h1, show ¬ (2 : Int) = 1 by decide, if_false, if_true]
  have hx := wd_named (hnm _ (List.mem_append.2 (.inr (getN_mem (l := c.lnames) (i := s.2 / 2) (by omega) (by omega)))))
  split
  ·exact wd_sym hx rfl rfl ⟨by decide, by decide⟩
  ·exact wd_sym hx rfl rfl ⟨by decide, by decide⟩
 ·simp only [segTx, segT2, h1, show ¬ (3 : Int) = 1 by decide, show ¬ (3 : Int) = 2 by decide, if_false, if_true]
  exact wd_space (wd_key (w := kAny) (by decide) (by decide)) (wd_itoa (by omega))
 ·simp only [segTx, segT2, h1, show ¬ (4 : Int) = 1 by decide, show ¬ (4 : Int) = 2 by decide, show ¬ (4 : Int) = 3 by decide, if_false]
  exact wd_space (wd_key (w := kBind) (by decide) (by decide)) (wd_itoa (by omega))
theorem splitK_lines : ∀ (ls : List (List UInt8)), (∀ l ∈ ls, 10 ∉ l) → splitK 10 [] (ls.flatMap (· ++ [10])) = ls ++ [[]]
 | [], _ => rfl
 | l :: r, h => by
  rw [List.flatMap_cons, List.append_assoc, List.singleton_append, splitK_hit (h l (by simp)), splitK_lines r (fun x hx => h x (by simp [hx])), List.append_nil]
  rfl
/-! Numbers, read back. -/
theorem post_rank {dry : Bool} {sy : SymS} {f : Nat} {n : Int} {r : List (List UInt8)} (h : rankS (peekS r) = 0) : post dry sy f [] [n] r = .ok (n, r) := by
 have hc : closeS dry r [] [n] = .ok (([], [n]), r) := by
  cases r with
  | nil => rfl
  | cons w t => rw [closeS, if_neg (by simp [openS])]
 unfold post
 simp only [hc, if_pos h, endS, combine_nil, if_true]
 rfl
theorem expr_dec (dry : Bool) (sy : SymS) {n : Int} (h0 : 0 ≤ n) (h1 : n < 1000000000000) {r : List (List UInt8)} (hr : rankS (peekS r) = 0) : exprS dry sy (Lib.decDigits n.natAbs :: r) = .ok (n, r) := by
 have e : Lib.decDigits n.natAbs :: r = numW n ++ r := by unfold numW; rw [if_neg (by omega)]; rfl
 rw [exprS, e, exprF_num dry sy _ n r [] [] (by omega)]
 exact post_rank hr
theorem value_dec (dry : Bool) (sy : SymS) {lo hi n : Int} (h0 : 0 ≤ n) (h1 : n < 1000000000000) (hb : lo ≤ n ∧ n ≤ hi) {r : List (List UInt8)} (hr : rankS (peekS r) = 0) : valueS dry sy lo hi (Lib.decDigits n.natAbs :: r) = .ok (n, r) := by
 rw [valueS, expr_dec dry sy h0 h1 hr]
 simp only
 rw [if_neg (fun h => h.2 hb)]
end Go.Proofs.YtfimacgmciogmaaGreatDoor
