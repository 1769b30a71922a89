/-
  timed: each of the five timers lies in 1..65536.
-/
import Derived.Test.YtenhliibmcmnbaaGreatRtX
namespace Go.Proofs.YtenhliibmcmnbaaGreat
set_option linter.unusedSimpArgs false
set_option linter.unusedVariables false
open Go.RowKit Go.Sort

section
variable {w : World}
def tmsOk (xs : List Int) : Bool := xs.all fun x => inR x 1 65536
theorem tms_bad {xs : List Int} {q : Nat} {x : Int} (h : xs[q]? = some x) (hx : inR x 1 65536 = false) : tmsOk xs = false := by
  cases hc : tmsOk xs with
  | false => rfl
  | true =>
    have := List.all_eq_true.1 hc x (List.mem_of_getElem? h)
    simp [hx] at this
set_option maxRecDepth 100000 in
set_option maxHeartbeats 2000000 in
theorem law_timed (h1 h2 h3 g s : Int) : Calls Tryz.prog 17 #[.agg #[.int .i64 h1, .int .i64 h2, .int .i64 h3, .int .i64 g, .int .i64 s]] w fun e w' => e = .returned (.bool (tmsOk [h1, h2, h3, g, s])) ∧ Below w.heap.size w w' := by
  obtain ⟨xs, hxs⟩ : ∃ xs, xs = [h1, h2, h3, g, s] := ⟨_, rfl⟩
  rw [← hxs]
  have HXL : Hid (xs.length = 5) := Lib.hid (by rw [hxs]; rfl)
  have HXS := Lib.hid hxs
  clear hxs
  have HB := Lib.hid (Below.refl w.heap.size w)
  go_enter Tryz.func17, Tryz.ntmps17
  go_upto_region 2 with fail
  refine wp_named2 (fun Y => (∃ p, p = w.heap.size + 1 ∧ ∀ (q : Nat) (x : Int), xs[q]? = some x → Y.cell? ⟨p, q, none⟩ = some (.int .i64 x)) ∧ Below w.heap.size w Y) ⟨⟨_, rfl, ?_⟩, below_two _ _ _⟩ ?_
  · intro q x hx
    rw [HXS.out] at hx
    have hB := (two_new w #[.int .i64 h1, .int .i64 h2, .int .i64 h3, .int .i64 g, .int .i64 s] #[.int .i64 h1, .int .i64 h2, .int .i64 h3, .int .i64 g, .int .i64 s] 28 3).2
    refine hB.cell q ?_
    match q, hx with
    | 0, hx => injection hx with hx; subst hx; rfl
    | 1, hx => injection hx with hx; subst hx; rfl
    | 2, hx => injection hx with hx; subst hx; rfl
    | 3, hx => injection hx with hx; subst hx; rfl
    | 4, hx => injection hx with hx; subst hx; rfl
    | n + 5, hx => simp at hx
  rintro Y ⟨⟨p, hp, hY1⟩, hY2⟩
  rw [← hp]
  clear hp
  have HY := Lib.hid hY1
  have HB := Lib.hid hY2
  clear hY1 hY2 HXS
  go_wp2_with fail
  go_loopg [4] 5 (fun gg i wx => ∃ q : Nat, q + gg = 5 ∧ i = .int .i64 q ∧ Hid (∀ j x, j < q → xs[j]? = some x → inR x 1 65536 = true) ∧ Hid (Below Y.heap.size Y wx))
  case atStart => exact ⟨0, rfl, rfl, Lib.hid (fun j x hj => absurd hj (by omega)), Lib.hid (Below.refl _ _)⟩
  case round =>
    obtain ⟨q, hq, rfl, HOK, HW⟩ := hrel
    by_cases hlt : q < 5
    · have hlt' : (q : Int) < 5 := by omega
      obtain ⟨x, hx⟩ : ∃ x, xs[q]? = some x := ⟨_, List.getElem?_eq_getElem (by have := HXL.out; omega)⟩
      have cx := HY.out q x hx
      have cy := cell_up HW.out cx
      have HX := Lib.hid hx
      clear cx hx
      by_cases hx1 : x < 1
      · go_wp2_with fail
        exact bodyPost_ret (v := .bool false) (by simp [results, Tryz.results17, go_sem]) rfl ⟨by rw [tms_bad HX.out (by simp [inR]; omega)], HB.out.trans (HW.out.mono HB.out.size)⟩
      · by_cases hx2 : 65536 < x
        · go_wp2_with fail
          exact bodyPost_ret (v := .bool false) (by simp [results, Tryz.results17, go_sem]) rfl ⟨by rw [tms_bad HX.out (by simp [inR]; omega)], HB.out.trans (HW.out.mono HB.out.size)⟩
        · go_wp2_with fail
          go_roundg (gk - 1)
          case measure => omega
          case rel =>
            refine ⟨q + 1, by omega, by go_num, Lib.hid (fun j y hj hy => ?_), HW⟩
            by_cases hjq : j = q
            · subst hjq
              rw [HX.out] at hy
              injection hy with hy
              subst hy
              simp [inR]; omega
            · exact HOK.out j y (by omega) hy
    · obtain rfl : q = 5 := by omega
      go_wp2_with fail
      have hall : tmsOk xs = true := List.all_eq_true.2 (fun y hy => by
        obtain ⟨j, hj, rfl⟩ := List.getElem_of_mem hy
        exact HOK.out j _ (by have := HXL.out; omega) (List.getElem?_eq_getElem hj))
      exact bodyPost_ret (v := .bool true) (by simp [results, Tryz.results17, go_sem]) rfl ⟨by rw [hall], HB.out.trans (HW.out.mono HB.out.size)⟩
end
end Go.Proofs.YtenhliibmcmnbaaGreat
