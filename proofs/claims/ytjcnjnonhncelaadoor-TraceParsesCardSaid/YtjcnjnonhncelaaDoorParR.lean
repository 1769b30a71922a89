/-
  What waypointref55.Read reads, in plain Lean.
-/
import Derived.Test.YtjcnjnonhncelaaDoorPar
import Derived.Test.YtjcnjnonhncelaaDoorSplit
namespace Go.Proofs.YtjcnjnonhncelaaDoor
set_option linter.unusedSimpArgs false
set_option linter.unusedVariables false

theorem wd_split : ∀ (n : Nat) (s : List UInt8), s.length ≤ n → ∀ i, (splitK 32 [] s).getD i [] = wd s i := by
  intro n
  induction n with
  | zero =>
    intro s hs i
    obtain rfl : s = [] := List.eq_nil_of_length_eq_zero (by omega)
    cases i with
    | zero => rfl
    | succ i => simp [splitK, wd_nil]
  | succ n ih =>
    intro s hs i
    by_cases hm : (32 : UInt8) ∈ s
    · obtain ⟨x, y, rfl, hx⟩ := indexByte_some hm
      rw [splitK_hit hx]
      cases i with
      | zero => simp [wd, hdW_hit hx]
      | succ i =>
        simp only [List.getD_cons_succ, wd, tlW_hit hx]
        exact ih y (by simp at hs; omega) i
    · rw [splitK_miss hm]
      cases i with
      | zero => simp [wd, hdW_miss hm]
      | succ i => simp [wd, tlW_miss hm, wd_nil]
theorem wd_at (s : List UInt8) (i : Nat) : (splitK 32 [] s).getD i [] = wd s i := wd_split s.length s (Nat.le_refl _) i

def digB (b : UInt8) : Bool := decide (48 ≤ b.toNat) && decide (b.toNat ≤ 57)
/-- What a word reads as a number by the reference. -/
def numR (x : List UInt8) : Int := if x = [] ∨ 10 < x.length ∨ (x.head? = some 48 ∧ 1 < x.length) then -1 else if x.all digB = true then x.foldl valF 0 else -1
theorem dec_head : ∀ u : Nat, u ≠ 0 → (Lib.decDigits u).head? ≠ some 48 := by
  intro u
  induction u using Nat.strongRecOn with
  | _ u ih =>
    intro hu
    by_cases h : u < 10
    · rw [dec_small h]
      simp only [List.head?_cons, ne_eq, Option.some.injEq]
      intro e
      have := congrArg UInt8.toNat e
      rw [digit_toNat h] at this
      simp at this; omega
    · rw [dec_big h]
      have h2 := ih (u / 10) (by omega) (by omega)
      have h3 := dec_ne (u / 10)
      cases hd : Lib.decDigits (u / 10) with
      | nil => exact absurd hd h3
      | cons a r => rw [hd] at h2; simpa using h2
theorem numR_itoa {n : Int} (h0 : 0 ≤ n) (h1 : n ≤ 1073741824) : numR (Lib.itoa n) = n := by
  rw [itoa_dec h0]
  unfold numR
  have hne := dec_ne n.toNat
  have hlen := dec_len 9 n.toNat (by omega)
  have hall : (Lib.decDigits n.toNat).all digB = true := by
    rw [List.all_eq_true]
    intro b hb
    have := dec_digits _ b hb
    simp [digB, this]
  have hhead : ¬ ((Lib.decDigits n.toNat).head? = some 48 ∧ 1 < (Lib.decDigits n.toNat).length) := by
    rintro ⟨a, b⟩
    by_cases hz : n.toNat = 0
    · rw [hz, dec_small (by decide)] at b; simp at b
    · exact dec_head _ hz a
  rw [if_neg (by rintro (h | h | h); exact hne h; omega; exact hhead h), if_pos hall, val_dec0]
  omega
def kindR (x : List UInt8) : Int := if 1 ≤ nameP verbsL x then nameP verbsL x else 0
def duL : List (List UInt8) := [[100, 111, 119, 110], [117, 112]]
/-- The event that the reference reads. -/
def readR (s : List UInt8) : Ev :=
  let t := numR (wd s 0)
  let k := kindR (wd s 1)
  if k = 1 ∨ k = 3 then ⟨t, k, numR (wd s 2), 0, numR (wd s 3), 0⟩
  else if k = 2 then ⟨t, k, numR (wd s 2), numR (wd s 3), numR (wd s 4), 0⟩
  else if k = 4 then ⟨t, k, numR (wd s 2), if onArcB (nameP reasonsL.tail (wd s 4) + 1) = true then numR (wd s 5) else 0, numR (wd s 3), nameP reasonsL.tail (wd s 4) + 1⟩
  else if k = 5 ∨ k = 6 then ⟨t, k, 0, nameP componentsL.tail (wd s 2) + 1, 0, numR (wd s 3)⟩
  else if k = 7 then ⟨t, k, numR (wd s 2), numR (wd s 3), 0, nameP duL (wd s 4) + 1⟩
  else if k = 8 then ⟨t, k, numR (wd s 2), 0, 0, nameP statesL (wd s 3)⟩
  else if k = 9 then ⟨t, k, numR (wd s 2), numR (wd s 3), 0, 0⟩
  else ⟨t, 0, 0, 0, 0, 0⟩
theorem tail_nm {l : List (List UInt8)} {i : Int} (h0 : 1 ≤ i) (h1 : i < (l.length : Int)) (hn : l.tail.Nodup) : nameP l.tail (nmL l i) + 1 = i := by
  have hk : i.toNat < l.length := by omega
  have h := List.getElem?_eq_getElem hk
  have ht : l.tail[i.toNat - 1]? = some l[i.toNat] := by rw [List.getElem?_tail, show i.toNat - 1 + 1 = i.toNat by omega]; exact h
  rw [nmL_at h, nameP_at (by simp; omega) hn ht]
  omega
theorem readR_evT {e : Ev} (h : evOk e = true) : readR (evT e) = e := by
  obtain ⟨bt0, bt1, bn0, bn1, ba0, ba1, bp0, bp1, br0, br1⟩ := evOk_bd h
  have hk1 : evK e.k e.n e.a e.p e.r = true := by unfold evOk at h; simp only [Bool.and_eq_true] at h; exact h.2
  have hk : 1 ≤ e.k ∧ e.k ≤ 9 := by
    by_cases h2 : 1 ≤ e.k ∧ e.k ≤ 9
    · exact h2
    · rw [evK_no (by omega)] at hk1; cases hk1
  have vk : kindR (nmL verbsL e.k) = e.k := by
    unfold kindR
    rw [name_nm (by omega) (by simp [verbsL]; omega) (by decide), if_pos hk.1]
  have nt := numR_itoa bt0 (by omega)
  have nn := numR_itoa bn0 (by omega)
  have na := numR_itoa ba0 (by omega)
  have np := numR_itoa bp0 (by omega)
  have nr := numR_itoa br0 (by omega)
  obtain ⟨t, k, n, a, p, r⟩ := e
  simp only at *
  obtain rfl | rfl | rfl | rfl | rfl | rfl | rfl | rfl | rfl : k = 1 ∨ k = 2 ∨ k = 3 ∨ k = 4 ∨ k = 5 ∨ k = 6 ∨ k = 7 ∨ k = 8 ∨ k = 9 := by omega
  all_goals simp only [readR, wd_evT, evWs]
  · simp [evK] at hk1; simp [nt, nn, np, vk, hk1]
  · simp [evK] at hk1; simp [nt, nn, np, na, vk, hk1]
  · simp [evK] at hk1; simp [nt, nn, np, vk, hk1]
  · obtain ⟨r1, r2⟩ := evOk_4 h
    have vr : nameP reasonsL.tail (nmL reasonsL r) + 1 = r := tail_nm (by omega) (by simp [reasonsL]; omega) (by decide)
    simp [evK] at hk1
    cases ho : onArcB r with
    | true => simp [nt, nn, np, na, vk, vr, ho]
    | false => simp [ho] at hk1; simp [nt, nn, np, vk, vr, ho, hk1]
  · obtain ⟨r1, r2⟩ := evOk_5 h
    have vr : nameP componentsL.tail (nmL componentsL a) + 1 = a := tail_nm (by omega) (by simp [componentsL]; omega) (by decide)
    simp [evK] at hk1; simp [nt, nr, vk, vr, hk1]
  · obtain ⟨r1, r2⟩ := evOk_6 h
    have vr : nameP componentsL.tail (nmL componentsL a) + 1 = a := tail_nm (by omega) (by simp [componentsL]; omega) (by decide)
    simp [evK] at hk1; simp [nt, nr, vk, vr, hk1]
  · obtain ⟨r1, r2⟩ := evOk_7 h
    have vr : nameP duL (nmL changesL r) + 1 = r := tail_nm (l := changesL) (by omega) (by simp [changesL]; omega) (by decide)
    simp [evK] at hk1; simp [nt, nn, na, vk, vr, hk1]
  · obtain ⟨r1, r2⟩ := evOk_8 h
    have vr : nameP statesL (nmL statesL r) = r := name_nm (by omega) (by simp [statesL]; omega) (by decide)
    simp [evK] at hk1; simp [nt, nn, vk, vr, hk1]
  · simp [evK] at hk1; simp [nt, nn, na, vk, hk1]
/-- The reference reads the same events. -/
theorem rdE_ref (s : List UInt8) : rdE s = if evOk (readR s) = true ∧ evT (readR s) = s then some (readR s) else none := by
  split
  · rename_i h; exact rdE_some.2 h
  · rename_i h
    cases hr : rdE s with
    | none => rfl
    | some e =>
      obtain ⟨h1, rfl⟩ := rdE_some.1 hr
      rw [readR_evT h1] at h
      exact absurd ⟨h1, rfl⟩ h

end Go.Proofs.YtjcnjnonhncelaaDoor
