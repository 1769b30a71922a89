/-
  What the readers of events read, in plain Lean: words, numbers, names; the event with a text; the trace with a text.
-/
import Derived.Test.YtjcnjnonhncelaaDoorEvP
import Derived.Test.YtjcnjnonhncelaaDoorNum
import Derived.Lib.SlicesS
namespace Go.Proofs.YtjcnjnonhncelaaDoor
set_option linter.unusedSimpArgs false
set_option linter.unusedVariables false

/-- The first word of a text, and what stands behind it. -/
def hdW (s : List UInt8) : List UInt8 := s.takeWhile (· != 32)
def tlW (s : List UInt8) : List UInt8 := (s.dropWhile (· != 32)).drop 1
theorem hdW_hit {x y : List UInt8} (h : (32 : UInt8) ∉ x) : hdW (x ++ 32 :: y) = x := by
  unfold hdW
  rw [List.takeWhile_append_of_pos (by intro a ha; simp; rintro rfl; exact h ha)]
  simp [List.takeWhile_cons]
theorem tlW_hit {x y : List UInt8} (h : (32 : UInt8) ∉ x) : tlW (x ++ 32 :: y) = y := by
  unfold tlW
  rw [List.dropWhile_append_of_pos (by intro a ha; simp; rintro rfl; exact h ha)]
  simp [List.dropWhile_cons]
theorem hdW_miss {x : List UInt8} (h : (32 : UInt8) ∉ x) : hdW x = x := by
  unfold hdW
  induction x with
  | nil => rfl
  | cons a x ih =>
    simp only [List.mem_cons, not_or] at h
    have ha : (a != 32) = true := by simp; exact fun e => h.1 e.symm
    rw [List.takeWhile_cons, ha, if_pos rfl, ih h.2]
theorem tlW_miss {x : List UInt8} (h : (32 : UInt8) ∉ x) : tlW x = [] := by
  unfold tlW
  induction x with
  | nil => rfl
  | cons a x ih =>
    simp only [List.mem_cons, not_or] at h
    have ha : (a != 32) = true := by simp; exact fun e => h.1 e.symm
    rw [List.dropWhile_cons, ha, if_pos rfl, ih h.2]
theorem hdW_len (s : List UInt8) : (hdW s).length ≤ s.length := by
  unfold hdW
  induction s with
  | nil => simp
  | cons a x ih => rw [List.takeWhile_cons]; split <;> simp only [List.length_cons, List.length_nil] <;> omega
theorem tlW_len (s : List UInt8) : (tlW s).length ≤ s.length := by
  unfold tlW
  rw [List.length_drop]
  have : (s.dropWhile (· != 32)).length ≤ s.length := by
    induction s with
    | nil => simp
    | cons a x ih => rw [List.dropWhile_cons]; split <;> simp only [List.length_cons] <;> omega
  omega
/-- The word with a number. -/
def wd (s : List UInt8) : Nat → List UInt8
  | 0 => hdW s
  | i + 1 => wd (tlW s) i
def rst (s : List UInt8) : Nat → List UInt8
  | 0 => s
  | i + 1 => rst (tlW s) i
theorem rst_succ (s : List UInt8) : ∀ i, rst s (i + 1) = tlW (rst s i)
  | 0 => rfl
  | i + 1 => rst_succ (tlW s) i
theorem wd_rst (s : List UInt8) : ∀ i, wd s i = hdW (rst s i)
  | 0 => rfl
  | i + 1 => wd_rst (tlW s) i
theorem rst_len (s : List UInt8) : ∀ i, (rst s i).length ≤ s.length
  | 0 => Nat.le_refl _
  | i + 1 => Nat.le_trans (rst_len (tlW s) i) (tlW_len s)
theorem wd_nil : ∀ i, wd [] i = []
  | 0 => rfl
  | i + 1 => wd_nil i
theorem wd_ws : ∀ (x : List UInt8) (ws : List (List UInt8)), (32 : UInt8) ∉ x → (∀ y ∈ ws, (32 : UInt8) ∉ y) → ∀ i, wd (x ++ wsT ws) i = (x :: ws).getD i []
  | x, [], hx, _, i => by
    cases i with
    | zero => simp [wsT, wd, hdW_miss hx]
    | succ i => simp [wsT, wd, tlW_miss hx, wd_nil]
  | x, y :: ws, hx, hw, i => by
    have e : x ++ wsT (y :: ws) = x ++ 32 :: (y ++ wsT ws) := by simp [wsT]
    rw [e]
    cases i with
    | zero => simp [wd, hdW_hit hx]
    | succ i =>
      simp only [wd, tlW_hit hx]
      rw [wd_ws y ws (hw y (by simp)) (fun z hz => hw z (by simp [hz])) i]
      simp

/-- What a word reads as: a number, a name. -/
def numP (x : List UInt8) : Int := match Lib.atoiAll x with | .ok v => v | _ => -1
def bas (l : List (List UInt8)) : List ByteArray := l.map fun x => ⟨x.toArray⟩
def nameP (l : List (List UInt8)) (x : List UInt8) : Int := Lib.idxOfS (bas l) ⟨x.toArray⟩
theorem numP_itoa {n : Int} (h0 : 0 ≤ n) (h1 : n ≤ 1073741824) : numP (Lib.itoa n) = n := by
  unfold numP
  rw [itoa_dec h0, atoi_dec (by omega)]
  show ((n.toNat : Nat) : Int) = n
  omega
theorem ba_inj {x y : List UInt8} (h : (⟨x.toArray⟩ : ByteArray) = ⟨y.toArray⟩) : x = y := by
  have := congrArg (fun b : ByteArray => b.data.toList) h
  simpa using this
theorem nameP_lt (l : List (List UInt8)) (x : List UInt8) : -1 ≤ nameP l x ∧ nameP l x < (l.length : Int) := by
  unfold nameP Lib.idxOfS
  suffices H : ∀ (zs : List ByteArray) (x : ByteArray) (i : Nat), -1 ≤ Lib.idxFromS zs x i ∧ Lib.idxFromS zs x i < ((i + zs.length : Nat) : Int) ∨ Lib.idxFromS zs x i = -1 by
    rcases H (bas l) ⟨x.toArray⟩ 0 with h | h
    · simpa [bas] using h
    · rw [h]; omega
  intro zs
  induction zs with
  | nil => intro x i; right; rfl
  | cons z zs ih =>
    intro x i
    rw [Lib.idxFromS]
    split
    · left; simp; omega
    · rcases ih x (i + 1) with h | h
      · left; simp only [List.length_cons]; omega
      · right; exact h
theorem nameP_at {l : List (List UInt8)} {k : Nat} (hk : k < l.length) (hn : l.Nodup) {x : List UInt8} (h : l[k]? = some x) : nameP l x = (k : Int) := by
  have := Lib.idxOfS_hit (bas l) l.length k ⟨x.toArray⟩ hk (by simp [bas]) (by simp [bas, List.getD_eq_getElem?_getD, h]) (fun j hj e => by
    have hjl : j < l.length := by omega
    simp [bas, List.getD_eq_getElem?_getD, List.getElem?_eq_getElem hjl] at e
    obtain ⟨hkl, hx⟩ := List.getElem?_eq_some_iff.1 h
    exact (List.pairwise_iff_getElem.1 hn) j k hjl hkl hj (by rw [hx]; exact e))
  rw [List.take_of_length_le (by simp [bas])] at this
  exact this

/-- The event that a line reads as. -/
def readP (s : List UInt8) : Ev :=
  let t := numP (wd s 0)
  let k := nameP verbsL (wd s 1)
  if k = 5 ∨ k = 6 then ⟨t, k, 0, nameP componentsL (wd s 2), 0, numP (wd s 3)⟩
  else if k = 1 ∨ k = 3 then ⟨t, k, numP (wd s 2), 0, numP (wd s 3), 0⟩
  else if k = 2 then ⟨t, k, numP (wd s 2), numP (wd s 3), numP (wd s 4), 0⟩
  else if k = 4 then ⟨t, k, numP (wd s 2), if onArcB (nameP reasonsL (wd s 4)) = true then numP (wd s 5) else 0, numP (wd s 3), nameP reasonsL (wd s 4)⟩
  else if k = 7 then ⟨t, k, numP (wd s 2), numP (wd s 3), 0, nameP changesL (wd s 4)⟩
  else if k = 8 then ⟨t, k, numP (wd s 2), 0, 0, nameP statesL (wd s 3)⟩
  else if k = 9 then ⟨t, k, numP (wd s 2), numP (wd s 3), 0, 0⟩
  else ⟨t, k, numP (wd s 2), 0, 0, 0⟩

theorem dec_no32 (n : Int) : (32 : UInt8) ∉ Lib.itoa n := by
  intro h
  unfold Lib.itoa at h
  split at h
  · simp only [List.mem_cons] at h
    rcases h with h | h
    · exact absurd h (by decide)
    · have := dec_digits _ _ h
      exact absurd this.1 (by decide)
  · have := dec_digits _ _ h
    exact absurd this.1 (by decide)
theorem nm_no32 (l : List (List UInt8)) (hl : l.all (fun x => decide ((32 : UInt8) ∉ x)) = true) (i : Int) : (32 : UInt8) ∉ nmL l i := by
  unfold nmL
  rw [List.getD_eq_getElem?_getD]
  cases h : l[i.toNat]? with
  | none => simp
  | some x =>
    have := List.all_eq_true.1 hl x (List.mem_of_getElem? h)
    simpa using this
theorem evWs_no32 (e : Ev) : ∀ y ∈ evWs e, (32 : UInt8) ∉ y := by
  have g1 := nm_no32 verbsL (by decide) e.k
  have g2 := nm_no32 reasonsL (by decide) e.r
  have g3 := nm_no32 componentsL (by decide) e.a
  have g4 := nm_no32 changesL (by decide) e.r
  have g5 := nm_no32 statesL (by decide) e.r
  have h := dec_no32
  unfold evWs
  repeat' split
  all_goals simp [h, g1, g2, g3, g4, g5]
theorem wd_evT (e : Ev) (i : Nat) : wd (evT e) i = (Lib.itoa e.t :: evWs e).getD i [] := wd_ws _ _ (dec_no32 _) (evWs_no32 e) i
theorem name_nm {l : List (List UInt8)} {i : Int} (h0 : 0 ≤ i) (h1 : i < (l.length : Int)) (hn : l.Nodup) : nameP l (nmL l i) = i := by
  have hk : i.toNat < l.length := by omega
  have h := List.getElem?_eq_getElem hk
  rw [nmL_at h, nameP_at hk hn h]
  omega

theorem read_evT {e : Ev} (h : evOk e = true) : readP (evT e) = e := by
  obtain ⟨bt0, bt1, bn0, bn1, ba0, ba1, bp0, bp1, br0, br1⟩ := evOk_bd h
  have hk1 : evK e.k e.n e.a e.p e.r = true := by unfold evOk at h; simp only [Bool.and_eq_true] at h; exact h.2
  have hk : 1 ≤ e.k ∧ e.k ≤ 9 := by
    by_cases h2 : 1 ≤ e.k ∧ e.k ≤ 9
    · exact h2
    · rw [evK_no (by omega)] at hk1; cases hk1
  have vk : nameP verbsL (nmL verbsL e.k) = e.k := name_nm (by omega) (by simp [verbsL]; omega) (by decide)
  have nt := numP_itoa bt0 (by omega)
  have nn := numP_itoa bn0 (by omega)
  have na := numP_itoa ba0 (by omega)
  have np := numP_itoa bp0 (by omega)
  have nr := numP_itoa br0 (by omega)
  obtain ⟨t, k, n, a, p, r⟩ := e
  simp only at *
  obtain rfl | rfl | rfl | rfl | rfl | rfl | rfl | rfl | rfl : k = 1 ∨ k = 2 ∨ k = 3 ∨ k = 4 ∨ k = 5 ∨ k = 6 ∨ k = 7 ∨ k = 8 ∨ k = 9 := by omega
  all_goals simp only [readP, wd_evT, evWs]
  · simp [evK] at hk1; simp [nt, nn, np, vk, hk1]
  · simp [evK] at hk1; simp [nt, nn, np, na, vk, hk1]
  · simp [evK] at hk1; simp [nt, nn, np, vk, hk1]
  · obtain ⟨r1, r2⟩ := evOk_4 h
    have vr : nameP reasonsL (nmL reasonsL r) = r := name_nm (by omega) (by simp [reasonsL]; omega) (by decide)
    simp [evK] at hk1
    cases ho : onArcB r with
    | true => simp [nt, nn, np, na, vk, vr, ho]
    | false => simp [ho] at hk1; simp [nt, nn, np, vk, vr, ho, hk1]
  · obtain ⟨r1, r2⟩ := evOk_5 h
    have vr : nameP componentsL (nmL componentsL a) = a := name_nm (by omega) (by simp [componentsL]; omega) (by decide)
    simp [evK] at hk1; simp [nt, nr, vk, vr, hk1]
  · obtain ⟨r1, r2⟩ := evOk_6 h
    have vr : nameP componentsL (nmL componentsL a) = a := name_nm (by omega) (by simp [componentsL]; omega) (by decide)
    simp [evK] at hk1; simp [nt, nr, vk, vr, hk1]
  · obtain ⟨r1, r2⟩ := evOk_7 h
    have vr : nameP changesL (nmL changesL r) = r := name_nm (by omega) (by simp [changesL]; omega) (by decide)
    simp [evK] at hk1; simp [nt, nn, na, vk, vr, hk1]
  · obtain ⟨r1, r2⟩ := evOk_8 h
    have vr : nameP statesL (nmL statesL r) = r := name_nm (by omega) (by simp [statesL]; omega) (by decide)
    simp [evK] at hk1; simp [nt, nn, vk, vr, hk1]
  · simp [evK] at hk1; simp [nt, nn, na, vk, hk1]

/-- The valid event with a text. -/
def rdE (s : List UInt8) : Option Ev := if evOk (readP s) = true ∧ evT (readP s) = s then some (readP s) else none
theorem rdE_some {s : List UInt8} {e : Ev} : rdE s = some e ↔ evOk e = true ∧ evT e = s := by
  unfold rdE
  constructor
  · intro h
    split at h
    · injection h with h; subst h; assumption
    · cases h
  · rintro ⟨h1, rfl⟩
    rw [read_evT h1, if_pos ⟨h1, rfl⟩]

end Go.Proofs.YtjcnjnonhncelaaDoor
