/-
  Contracts of the reference's small functions of chapter 9: the same plain functions as the program's.
-/
import Derived.Test.YtenhliibmcmnbaaGreatValid
namespace Go.Proofs.YtenhliibmcmnbaaGreat
open Go.RowKit Go.Sort

theorem valid_of_arcs {t : Topo} {a : Int} (h0 : 0 ≤ a) (h1 : a < arcsV t) : valid t = true := by
  cases hv : valid t with
  | true => rfl
  | false => rw [arcsV_false hv] at h1; omega

theorem twin_arc {a : Int} (h0 : 0 ≤ a) {n : Int} (h1 : a < 2 * n) : 0 ≤ a / 2 * 2 + 1 - a % 2 ∧ a / 2 * 2 + 1 - a % 2 < 2 * n := by omega
theorem twin_tail (t : Topo) {a : Int} : tail t (a / 2 * 2 + 1 - a % 2) = head t a := by
  by_cases h : a % 2 = 0
  · rw [show a / 2 * 2 + 1 - a % 2 = a + 1 from by omega]
    have e : (a + 1) / 2 = a / 2 := by omega
    have e2 : ¬ (a + 1) % 2 = 0 := by omega
    simp [tail, head, lnk, e, h, e2]
  · rw [show a / 2 * 2 + 1 - a % 2 = a - 1 from by omega]
    have e : (a - 1) / 2 = a / 2 := by omega
    have e2 : (a - 1) % 2 = 0 := by omega
    simp [tail, head, lnk, e, h, e2]

end Go.Proofs.YtenhliibmcmnbaaGreat
