/-
  Numerals in plain Lean: the digits of a number, what waypointref09.Value reads out of them, and how strconv.Atoi ends at them. Nothing of the program is stated here.
-/
import Derived.Lib.AtoiAll
import Derived.Lib.ItoaNum
import Derived.Lib.ItoaLen
import Derived.Lib.Bytealg
namespace Go.Proofs.YtpofbhaipeiegaaGreatDoor

/-- The number that the first nine bytes stand for, read loosely. -/
def valF (n : Int) (b : UInt8) : Int := 10 * n + (b.toNat : Int) - 48
def valN (s : List UInt8) : Int := (s.take 9).foldl valF 0

theorem digit_toNat {d : Nat} (h : d < 10) : (UInt8.ofNat (48 + d)).toNat = 48 + d := by
  simp [UInt8.toNat_ofNat']; omega
theorem dec_small {u : Nat} (h : u < 10) : Lib.decDigits u = [UInt8.ofNat (48 + u)] := by rw [Lib.decDigits, dif_pos h]
theorem dec_big {u : Nat} (h : ¬ u < 10) : Lib.decDigits u = Lib.decDigits (u / 10) ++ [UInt8.ofNat (48 + u % 10)] := by rw [Lib.decDigits, dif_neg h]
theorem dec_ne (u : Nat) : Lib.decDigits u ≠ [] := by
  by_cases h : u < 10
  · rw [dec_small h]; simp
  · rw [dec_big h]; simp
theorem dec_digits : ∀ (u : Nat) (b : UInt8), b ∈ Lib.decDigits u → 48 ≤ b.toNat ∧ b.toNat ≤ 57 := by
  intro u
  induction u using Nat.strongRecOn with
  | _ u ih =>
    intro b hb
    by_cases h : u < 10
    · rw [dec_small h, List.mem_singleton] at hb
      rw [hb, digit_toNat h]; omega
    · rw [dec_big h, List.mem_append, List.mem_singleton] at hb
      rcases hb with hb | hb
      · exact ih (u / 10) (by omega) b hb
      · rw [hb, digit_toNat (by omega)]; omega
theorem dec_len : ∀ (k u : Nat), u < 10 ^ (k + 1) → (Lib.decDigits u).length ≤ k + 1
  | 0, u, h => by rw [dec_small (by simpa using h)]; simp
  | k + 1, u, h => by
    by_cases h' : u < 10
    · rw [dec_small h']; simp
    · rw [dec_big h', List.length_append]
      have : u / 10 < 10 ^ (k + 1) := by rw [Nat.div_lt_iff_lt_mul (by omega)]; rwa [Nat.pow_succ] at h
      have := dec_len k (u / 10) this
      simp; omega
theorem val_dec0 : ∀ u : Nat, (Lib.decDigits u).foldl valF 0 = (u : Int) := by
  intro u
  induction u using Nat.strongRecOn with
  | _ u ih =>
    by_cases h : u < 10
    · rw [dec_small h]
      simp only [List.foldl_cons, List.foldl_nil, valF, digit_toNat h]
      omega
    · rw [dec_big h, List.foldl_append, ih (u / 10) (by omega)]
      simp only [List.foldl_cons, List.foldl_nil, valF, digit_toNat (show u % 10 < 10 by omega)]
      omega
theorem val_dec {u : Nat} (h : u ≤ 999999999) : valN (Lib.decDigits u) = (u : Int) := by
  unfold valN
  rw [List.take_of_length_le (dec_len 8 u (by omega)), val_dec0]

theorem parse_append (x : List UInt8) : ∀ (acc : Nat) (y : List UInt8), Lib.parseUint10 acc (x ++ y) = (match Lib.parseUint10 acc x with | .ok v => Lib.parseUint10 v y | .«syntax» => .«syntax» | .range => .range) := by
  induction x with
  | nil => intro acc y; simp [Lib.parseUint10]
  | cons c r ih =>
    intro acc y
    simp only [List.cons_append, Lib.parseUint10]
    split
    · split
      · rfl
      · split
        · rfl
        · exact ih _ y
    · rfl
theorem parse_dec : ∀ u : Nat, u < 1000000000000000000 → Lib.parseUint10 0 (Lib.decDigits u) = .ok u := by
  intro u
  induction u using Nat.strongRecOn with
  | _ u ih =>
    intro hu
    by_cases h : u < 10
    · rw [dec_small h]
      simp only [Lib.parseUint10, digit_toNat h]
      rw [if_pos (by omega), if_neg (by omega), if_neg (by omega)]
      congr 1
      omega
    · rw [dec_big h, parse_append, ih (u / 10) (by omega) (by omega)]
      simp only [Lib.parseUint10, digit_toNat (show u % 10 < 10 by omega)]
      rw [if_pos (by omega), if_neg (by omega), if_neg (by omega)]
      congr 1
      omega
theorem atoi_dec {u : Nat} (h : u < 1000000000000000000) : Lib.atoiAll (Lib.decDigits u) = .ok (u : Int) := by
  have hp := parse_dec u h
  have hd := dec_digits u
  cases hx : Lib.decDigits u with
  | nil => exact absurd hx (dec_ne u)
  | cons c r =>
    rw [hx] at hp hd
    have hc := hd c (by simp)
    have h1 : ¬ (c.toNat = 43 ∨ c.toNat = 45) := by omega
    have h2 : ¬ c.toNat = 45 := by omega
    simp only [Lib.atoiAll, if_neg h1, Lib.parseMag, hp]
    simp [h2]
    omega
theorem itoa_dec {m : Int} (h : 0 ≤ m) : Lib.itoa m = Lib.decDigits m.toNat := by
  unfold Lib.itoa
  rw [if_neg (by omega)]
theorem atoi_itoa {m : Int} (h0 : 0 ≤ m) (h1 : m ≤ 999999999) : Lib.atoiAll (Lib.itoa m) = .ok m := by
  rw [itoa_dec h0, atoi_dec (by omega)]
  congr 1
  omega
theorem val_itoa {m : Int} (h0 : 0 ≤ m) (h1 : m ≤ 999999999) : valN (Lib.itoa m) = m := by
  rw [itoa_dec h0, val_dec (by omega)]
  omega

/-- What stands before the first space, and behind it. -/
theorem indexByte_none {l : List UInt8} {c : UInt8} (h : c ∉ l) : Lib.indexByte l c = -1 := by
  induction l with
  | nil => rfl
  | cons b r ih =>
    simp only [List.mem_cons, not_or] at h
    have : (b == c) = false := by simp; exact fun e => h.1 e.symm
    simp [Lib.indexByte, this, ih h.2]
theorem indexByte_at {x y : List UInt8} {c : UInt8} (h : c ∉ x) : Lib.indexByte (x ++ c :: y) c = (x.length : Int) := by
  induction x with
  | nil => simp [Lib.indexByte]
  | cons b r ih =>
    simp only [List.mem_cons, not_or] at h
    have hb : (b == c) = false := by simp; exact fun e => h.1 e.symm
    rw [List.cons_append, Lib.indexByte, hb, ih h.2]
    have : ((r.length : Int) == -1) = false := by rw [beq_eq_false_iff_ne]; omega
    simp [this]
theorem indexByte_some {l : List UInt8} {c : UInt8} (h : c ∈ l) : ∃ x y, l = x ++ c :: y ∧ c ∉ x := by
  induction l with
  | nil => cases h
  | cons b r ih =>
    by_cases e : b = c
    · exact ⟨[], r, by rw [e]; rfl, by simp⟩
    · obtain ⟨x, y, rfl, hx⟩ := ih (by simpa [Ne.symm e] using h)
      exact ⟨b :: x, y, rfl, by simp [hx, Ne.symm e]⟩

end Go.Proofs.YtpofbhaipeiegaaGreatDoor
