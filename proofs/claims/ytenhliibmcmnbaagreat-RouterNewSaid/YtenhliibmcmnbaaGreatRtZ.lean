/-
  waypointlaw53.RouterNew holds: the walk.
-/
import Derived.Test.YtenhliibmcmnbaaGreatRtW
import Derived.Test.YtenhliibmcmnbaaGreatRtP
import Derived.Test.YtenhliibmcmnbaaGreatRtI
import Derived.Test.YtenhliibmcmnbaaGreatRtY
namespace Go.Proofs.YtenhliibmcmnbaaGreat
set_option linter.unusedSimpArgs false
set_option linter.unusedVariables false
open Go.RowKit Go.Sort

section
variable {t : Topo} {v bt h1 h2 h3 g s : Int} {A1 A2 : Option Addr} {w : World}
/-- The error that router.New answers with. -/
def newK (t : Topo) (v bt h1 h2 h3 g s : Int) : Int := if (valid t && inR bt 1 1073741824 && tmsOk [h1, h2, h3, g, s]) = true then (if isN t.n v = true then 0 else 2) else 1
/-- What router.New answers: no router and the error, or a fresh router. -/
def RRes (t : Topo) (v bt h1 h2 h3 g s : Int) (rp : Option Addr) (kk : Int) (n0 : Nat) (w' : World) : Prop :=
  kk = newK t v bt h1 h2 h3 g s ∧ ((kk ≠ 0 ∧ rp = none) ∨ (kk = 0 ∧ ∃ rb, rp = some ⟨rb, 0, none⟩ ∧ RouAt t v rb w' ∧ n0 ≤ rb))
theorem RRes.up {rp : Option Addr} {kk : Int} {n0 : Nat} {w w' : World} (h : RRes t v bt h1 h2 h3 g s rp kk n0 w) (hb : Below w.heap.size w w') : RRes t v bt h1 h2 h3 g s rp kk n0 w' :=
  ⟨h.1, h.2.elim .inl fun ⟨h0, rb, h1, h2, h3⟩ => .inr ⟨h0, rb, h1, h2.up hb, h3⟩⟩
theorem tmsOk5 : tmsOk [h1, h2, h3, g, s] = ((inR h1 1 65536 && inR h2 1 65536 && inR h3 1 65536) && (inR g 1 65536 && inR s 1 65536)) := by
  simp [tmsOk, Bool.and_assoc]
theorem router_New_all (c1 c2 : Nat) (hT : TAt w A1 A2 t) :
    Calls Tryz.prog 6 #[.agg #[.int .i64 t.n, .slice A1 t.ov.length c1, .slice A2 t.ls.length c2], .int .i64 v, .int .i64 bt, .agg #[.int .i64 h1, .int .i64 h2, .int .i64 h3, .int .i64 g, .int .i64 s]] w fun e w' => ∃ rp kk, e = .returned (.tuple #[.pointer rp, .int .i64 kk]) ∧ RRes t v bt h1 h2 h3 g s rp kk w.heap.size w' ∧ Below w.heap.size w w' := by
  have H5 := @tmsOk5 h1 h2 h3 g s
  have no : ∀ k : Int, k ≠ 0 → k = newK t v bt h1 h2 h3 g s → ∀ (e : Ending) (w' : World), (e = .returned (.tuple #[.pointer none, .int .i64 k]) ∧ Below w.heap.size w w') → ∃ rp kk, e = .returned (.tuple #[.pointer rp, .int .i64 kk]) ∧ RRes t v bt h1 h2 h3 g s rp kk w.heap.size w' ∧ Below w.heap.size w w' := fun k hk he e w' ⟨h1, h2⟩ => ⟨none, k, h1, ⟨he, .inl ⟨hk, rfl⟩⟩, h2⟩
  cases hx : (inR g 1 65536 && inR s 1 65536) with
  | false => exact (router_New_bad1 c1 c2 v bt h1 h2 h3 g s hT hx).mono (no 1 (by decide) (by simp [newK, H5, hx]))
  | true =>
    cases hy : (valid t && inR bt 1 1073741824) with
    | false => exact (router_New_bad2 c1 c2 v bt h1 h2 h3 g s 1 (.inl rfl) hT hx (fun W c1 c2 hW => speaker_New_bad1 c1 c2 v bt h1 h2 h3 hW hy)).mono (no 1 (by decide) (by simp [newK, hy]))
    | true =>
      obtain ⟨hv, hbt⟩ := Bool.and_eq_true_iff.1 hy
      cases ht : (inR h1 1 65536 && inR h2 1 65536 && inR h3 1 65536) with
      | false => exact (router_New_bad2 c1 c2 v bt h1 h2 h3 g s 1 (.inl rfl) hT hx (fun W c1 c2 hW => speaker_New_bad2 c1 c2 v bt h1 h2 h3 hW hv hbt ht)).mono (no 1 (by decide) (by simp [newK, H5, ht]))
      | true =>
        have hall : (valid t && inR bt 1 1073741824 && tmsOk [h1, h2, h3, g, s]) = true := by rw [hy, H5, ht, hx]; rfl
        obtain ⟨e12, e3⟩ := Bool.and_eq_true_iff.1 ht
        obtain ⟨e1, e2⟩ := Bool.and_eq_true_iff.1 e12
        cases hn : isN t.n v with
        | false => exact (router_New_bad2 c1 c2 v bt h1 h2 h3 g s 2 (.inr rfl) hT hx (fun W c1 c2 hW => speaker_New_bad3 c1 c2 v bt h1 h2 h3 hW hv hbt e1 e2 e3 hn)).mono (no 2 (by decide) (by simp only [newK, hall, hn]; rfl))
        | true =>
          refine (router_New_ok c1 c2 v bt h1 h2 h3 g s hT hv hn hx (fun W c1 c2 hW => speaker_New_ok c1 c2 v bt h1 h2 h3 hW hv hbt e1 e2 e3 hn)).mono ?_
          rintro e w' ⟨⟨rb, rfl, hr, hrb⟩, hb⟩
          exact ⟨_, 0, rfl, ⟨by simp only [newK, hall, hn]; rfl, .inr ⟨rfl, rb, rfl, hr, hrb⟩⟩, hb⟩
theorem rou_State {rb : Nat} (hv : valid t = true) (h : RouAt t v rb w) : Calls Tryz.prog 12 #[.pointer (some ⟨rb, 0, none⟩)] w fun e w' => e = .returned (.int .i64 3) ∧ Below w.heap.size w w' := by
  obtain ⟨sb, C1, C2, B1, B2, D, e1, e2, d1, d2, g, s, hr, hc, hw, _⟩ := h
  exact router_State0 hv ⟨hr, hc, hw.1, hw.2.1⟩
theorem rou_Table {rb : Nat} (hv : valid t = true) (hn : isN t.n v = true) (h : RouAt t v rb w) : Calls Tryz.prog 15 #[.pointer (some ⟨rb, 0, none⟩)] w fun e w' => (∃ x y, e = .returned (.agg #[.int .i64 v, x, y])) ∧ Kp [rb] w w' := by
  obtain ⟨sb, C1, C2, B1, B2, D, e1, e2, d1, d2, g, s, hr, hc, hw, _⟩ := h
  exact router_Table0 hv hn ⟨hr, hc, hw.1, hw.2.1⟩
end
end Go.Proofs.YtenhliibmcmnbaaGreat
