/-
  Contracts of package graph's small functions and of the two 'within': what each returns, for every topology in memory.
-/
import Derived.Test.YtpofbhaipeiegaaGreatDoorBase
namespace Go.Proofs.YtpofbhaipeiegaaGreatDoor
open Go.RowKit Go.Sort

theorem topology_within (n lo hi : Int) (w : World) :
    Calls Tryz.prog 72 #[.int .i64 n, .int .i64 lo, .int .i64 hi] w fun e w' => e = .returned (.bool (inR n lo hi)) ∧ w = w' := by
  by_cases h1 : lo ≤ n <;> by_cases h2 : n ≤ hi <;>
  (go_enter Tryz.func72, Tryz.ntmps72
   go_wp2
   go_ret
   simp [h1, h2, inR]) <;> omega

theorem ref09_within (n lo hi : Int) (w : World) :
    Calls Tryz.prog 78 #[.int .i64 n, .int .i64 lo, .int .i64 hi] w fun e w' => e = .returned (.bool (inR n lo hi)) ∧ w = w' := by
  by_cases h1 : lo ≤ n <;> by_cases h2 : n ≤ hi <;>
  (go_enter Tryz.func78, Tryz.ntmps78
   go_wp2
   go_ret
   simp [h1, h2, inR]) <;> omega

theorem graph_Node (n m : Int) (v1 v2 : Value) (w : World) :
    Calls Tryz.prog 73 #[.agg #[.int .i64 n, v1, v2], .int .i64 m] w fun e w' => e = .returned (.bool (isN n m)) ∧ Below w.heap.size w w' := by
  go_enter Tryz.func73, Tryz.ntmps73
  go_wp2 <;> (go_ret; refine ⟨by simp [isN] <;> omega, by go_grown⟩)

theorem bits_xor_one (a : Int) (h0 : 0 ≤ a) (h1 : a < 1000000) : bits .xor .i64 a 1 = if a % 2 = 0 then a + 1 else a - 1 := by
  obtain ⟨k, rfl⟩ := Int.eq_ofNat_of_zero_le h0
  have hx : k ^^^ 1 < 2 ^ 63 := Nat.xor_lt_two_pow (by omega) (by omega)
  have e1 : (BitVec.ofInt 64 (k : Int)).toNat = k := by rw [BitVec.ofInt_natCast, BitVec.toNat_ofNat]; exact Nat.mod_eq_of_lt (by omega)
  show IntKind.i64.wrap ((BitVec.ofInt 64 (k : Int) ^^^ BitVec.ofInt 64 1).toNat : Int) = _
  rw [BitVec.toNat_xor, e1]
  have e2 : (BitVec.ofInt 64 (1 : Int)).toNat = 1 := by decide
  rw [e2, IntKind.wrap_i64]
  have e3 : k ^^^ 1 = if k % 2 = 0 then k + 1 else k - 1 := by
    have := Nat.xor_div_two (a := k) (b := 1)
    have h2 := Nat.xor_mod_two_eq_one (a := k) (b := 1)
    have h3 : k / 2 ^^^ 1 / 2 = k / 2 := by simp
    rw [h3] at this
    split <;> omega
  rw [e3]
  split <;> split <;> omega

theorem twin_lo {t : Topo} {a : Int} (h : a % 2 = 0) : tail t (a + 1) = head t a := by
  have e : (a + 1) / 2 = a / 2 := by omega
  have e2 : ¬ (a + 1) % 2 = 0 := by omega
  simp [tail, head, lnk, e, h, e2]
theorem twin_hi {t : Topo} {a : Int} (h : ¬ a % 2 = 0) : tail t (a - 1) = head t a := by
  have e : (a - 1) / 2 = a / 2 := by omega
  have e2 : (a - 1) % 2 = 0 := by omega
  simp [tail, head, lnk, e, h, e2]

end Go.Proofs.YtpofbhaipeiegaaGreatDoor
