/-
  Stores into a guard.
-/
import Derived.Test.YtdnjflpmbnjgeaaPkVyG
namespace Go.Proofs.Ytdnjflpmbnjgeaa
set_option linter.unusedSimpArgs false
set_option linter.unusedVariables false
open Go.RowKit Go.Sort
section
variable {F : FaN} {A1 A2 O : Option Addr} {c1 c2 co g sm : Nat} {ok : Bool} {Ad Am : Option Addr} {dn ms : List Bool} {cd cm : Nat} {sn : Int → Option Int} {W : World}
theorem gd_two {dv : Value} {o : Nat} {x y : Bool} (hd : ∀ b, dv ≠ .bool b) (h0 : (gdV F A1 A2 O c1 c2 co ok dv sm)[o]? = some (.bool x)) (h1 : (gdV F A1 A2 O c1 c2 co ok dv sm)[o + 1]? = some (.bool y)) : False := by
  have hlt : o + 1 < 10 := by
    have := (Array.getElem?_eq_some_iff.1 h1).1
    simpa [gdV] using this
  match o, hlt with
  | 0, _ => simp [gdV] at h0
  | 1, _ => simp [gdV] at h0
  | 2, _ => simp [gdV] at h0
  | 3, _ => simp [gdV] at h0
  | 4, _ => simp [gdV] at h0
  | 5, _ => simp [gdV] at h0
  | 6, _ => simp [gdV] at h0
  | 7, _ => simp [gdV] at h1; exact hd _ h1
  | 8, _ => simp [gdV] at h0; exact hd _ h0
theorem Rd.setG {j : Nat} {v : Value} {xs : List Bool} {A : Option Addr} (h : Rd W A (xs.map Value.bool)) (hl : xs.length ≠ 1) {dl dc : Nat} (hg : Bl 70 g (gdV F A1 A2 O c1 c2 co ok (.slice Ad dl dc) sm) W) : Rd (W.setCell ⟨g, j, none⟩ v) A (xs.map Value.bool) := by
  rcases h with h | ⟨c, o, rfl, hc⟩
  · exact .inl h
  · by_cases e : c = g
    · subst e
      match xs, hl, hc with
      | [], _, _ => exact .inl rfl
      | [_], hl, _ => exact absurd rfl hl
      | x :: y :: r, _, hc =>
        have h0 := hc 0 (.bool x) rfl
        have h1 := hc 1 (.bool y) rfl
        rw [Lib.cell_of_heap hg] at h0 h1
        exact (gd_two (fun b hb => by cases hb) h0 h1).elim
    · exact .inr ⟨c, o, rfl, fun i u hu => (World.cell?_of_block (w := W) (Below.heap_setCell _ _ _ _ e)).trans (hc i u hu)⟩
theorem GdW.setD (h : GdW F A1 A2 O c1 c2 co g sm ok Ad dn cd sn W) (hr : Rd W Am (ms.map Value.bool)) (hl : ms.length ≠ 1) (hne : sm ≠ g) : GdW F A1 A2 O c1 c2 co g sm ok Am ms cm sn (W.setCell ⟨g, 8, none⟩ (.slice Am ms.length cm)) :=
  ⟨h.gb.set 8 _ rfl, h.fm.kept (Below.heap_setCell _ _ _ _ hne), hr.setG hl h.gb⟩
theorem GdW.setO (h : GdW F A1 A2 O c1 c2 co g sm ok Ad dn cd sn W) (b : Bool) (hl : dn.length ≠ 1) (hne : sm ≠ g) : GdW F A1 A2 O c1 c2 co g sm b Ad dn cd sn (W.setCell ⟨g, 7, none⟩ (.bool b)) :=
  ⟨h.gb.set 7 _ rfl, h.fm.kept (Below.heap_setCell _ _ _ _ hne), h.rd.setG hl h.gb⟩
/-- A call that returns a guard. -/
def RetGd (F : FaN) (tr : List Ev) (A1 A2 O : Option Addr) (c1 c2 co : Nat) (w : World) (e : Ending) (w' : World) : Prop :=
  ∃ (g sm : Nat) (ok : Bool) (Ad : Option Addr) (cd : Nat), e = .returned (.pointer (some ⟨g, 0, none⟩)) ∧ GdW F A1 A2 O c1 c2 co g sm ok Ad (downV F) cd (sentF tr) w' ∧ (ok = true ↔ okP F tr) ∧ w.heap.size ≤ g ∧ w.heap.size ≤ sm ∧ Below w.heap.size w w' ∧ ∀ p, Ad = some p → w.heap.size ≤ p.block
theorem RetGd.mk {tr : List Ev} {w w' : World} {e : Ending} {ms : List Bool} (he : e = .returned (.pointer (some ⟨g, 0, none⟩))) (hd : downV F = ms) (hG : GdW F A1 A2 O c1 c2 co g sm ok Ad ms cd (sentF tr) w') (ho : ok = true ↔ okP F tr) (h1 : w.heap.size ≤ g) (h2 : w.heap.size ≤ sm) (hb : Below w.heap.size w w') (hf : ∀ p, Ad = some p → w.heap.size ≤ p.block) : RetGd F tr A1 A2 O c1 c2 co w e w' :=
  ⟨g, sm, ok, Ad, cd, he, by rw [hd]; exact hG, ho, h1, h2, hb, hf⟩
end
theorem comp_inJ {t : Topo} {k m : Int} (h : compV t k m = true) : inJ k ∧ inJ m := by
  have hv := compV_valid h
  have hn := valid_n hv
  have hl := valid_ls hv
  have hk := compV_kind h
  rw [compV, hv, Bool.true_and] at h
  unfold inJ
  rcases hk with rfl | rfl | rfl
  · rw [compOk1] at h; simp at h; omega
  · rw [compOk2] at h; have := isN_true.1 h; omega
  · rw [compOk3] at h; simp at h; omega
end Go.Proofs.Ytdnjflpmbnjgeaa
