/-
  repair.Covered: what it says, and the state of its loops.
-/
import Derived.Test.YtdnjflpmbnjgeaaPkAsm
import Derived.Test.YtdnjflpmbnjgeaaPkFm
import Derived.Test.YtdnjflpmbnjgeaaPkFe
namespace Go.Proofs.Ytdnjflpmbnjgeaa
set_option linter.unusedSimpArgs false
set_option linter.unusedVariables false
open Go.RowKit Go.Sort
/-- An arc of a component, with its tail left: what its tail assumes holds the component. -/
def covA (t : Topo) (k m a : Int) : Prop := part t k m (a / 2) = true → ¬ (k = 2 ∧ m = tail t a) → ∀ d, 0 ≤ d → d < t.n → reach t (mask t [(k, m)]) (tail t a) d → withinV t k m (asmV t a d).1 (asmV t a d).2 = true
/-- All points of local repair assume a component that holds what failed. -/
def covP (t : Topo) (k m : Int) : Prop := compV t k m = true ∧ ∀ a, 0 ≤ a → a < 2 * (t.ls.length : Int) → covA t k m a
/-- A map is no block of cells. -/
theorem Bl.kpm {T : TypeId} {b mb : Nat} {cs : Array Value} {w w' : World} {es : Array MapEntry} {cl : Nat} (h : Bl T b cs w) (hK : Kp [mb] w w') (hm : w.heap[mb]? = some (.map es cl)) : Bl T b cs w' :=
  h.kp hK (by
    rw [List.mem_singleton]
    rintro rfl
    have := h.symm.trans hm
    cases this)
theorem Rd.kpm {A : Option Addr} {mb : Nat} {xs : List Value} {w w' : World} {es : Array MapEntry} {cl : Nat} (h : Rd w A xs) (hK : Kp [mb] w w') (hm : w.heap[mb]? = some (.map es cl)) : Rd w' A xs := by
  rcases h with h | ⟨c, o, rfl, hc⟩
  · exact .inl h
  · refine .inr ⟨c, o, rfl, fun j u hu => ?_⟩
    have h1 := hc j u hu
    have hlt : c < w.heap.size := by
      rcases Nat.lt_or_ge c w.heap.size with h2 | h2
      · exact h2
      · simp [World.cell?, Array.getElem?_eq_none h2] at h1
    by_cases e : c = mb
    · subst e
      simp [World.cell?, hm] at h1
    · rw [World.cell?_of_block (w := w) (hK.blk c hlt (by simpa using e))]
      exact h1
theorem asmB_kpm {t : Topo} {arc g h : Int} {b13 b9 gs b7 b11 b8 b6 b12 : Nat} {Ag An : Option Addr} {lg cg ln cn : Nat} {dg dh : List Int} {w w' : World} {mb : Nat} {es : Array MapEntry} {cl : Nat} (H : AsmB t arc g h b13 b9 gs b7 b11 b8 b6 b12 Ag An lg cg ln cn dg dh w) (hK : Kp [mb] w w') (hm : w.heap[mb]? = some (.map es cl)) : AsmB t arc g h b13 b9 gs b7 b11 b8 b6 b12 Ag An lg cg ln cn dg dh w' :=
  ⟨H.r13.kpm hK hm, H.rgs.kpm hK hm, H.r9.kpm hK hm, H.r7.kpm hK hm, H.r11.kpm hK hm, H.r8.kpm hK hm, H.r6.kpm hK hm, H.r12.kpm hK hm, fun x => ⟨(H.hg x).1, (H.hg x).2.1, (H.hg x).2.2.kpm hK hm⟩, ⟨H.hh.1, H.hh.2.1, H.hh.2.2.kpm hK hm⟩⟩
theorem AsmF.kpm {t : Topo} {a : Int} {f : Value} {mb : Nat} {w w' : World} {es : Array MapEntry} {cl : Nat} (h : AsmF t a f w) (hK : Kp [mb] w w') (hm : w.heap[mb]? = some (.map es cl)) : AsmF t a f w' := by
  obtain ⟨b13, b9, gs, b7, b11, b8, b6, b12, Ag, An, lg, cg, ln, cn, dg, dh, he, H, sg, sh⟩ := h
  exact ⟨b13, b9, gs, b7, b11, b8, b6, b12, Ag, An, lg, cg, ln, cn, dg, dh, he, asmB_kpm H hK hm, sg, sh⟩
theorem AsmF.form {t : Topo} {a : Int} {f : Value} {w : World} (h : AsmF t a f w) : ∃ p q, f = .func (.func 70) #[] #[p, q] := by
  obtain ⟨b13, b9, gs, b7, b11, b8, b6, b12, Ag, An, lg, cg, ln, cn, dg, dh, he, _⟩ := h
  exact ⟨_, _, he⟩
theorem AsmF.call2 {t : Topo} {a : Int} {p q : Value} {w : World} (h : AsmF t a (.func (.func 70) #[] #[p, q]) w) (hv : valid t = true) (h0 : 0 ≤ a) (h1 : a < 2 * (t.ls.length : Int)) (d : Int) (hd : isN t.n d = true) :
    Calls Try.prog 70 #[.int .i64 d, p, q] w (RetCp w (asmV t a d).1 (asmV t a d).2) := by
  obtain ⟨p', q', he, hc⟩ := h.call hv h0 h1
  have h2 := hc d hd w (Below.refl _ _)
  simp only [Value.func.injEq, true_and, Array.mk.injEq, List.cons.injEq, and_true] at he
  rw [he.1, he.2]
  exact h2
/-- Covered's memory. -/
structure CvW (w : World) (A1 A2 : Option Addr) (c1 c2 : Nat) (t : Topo) (k m : Int) (A : Option Addr) (mb : Nat) (f : Int × Int → Option Bool) (Y : World) : Prop where
  tb : Bl 25 w.heap.size #[.int .i64 t.n, .slice A1 t.ov.length c1, .slice A2 t.ls.length c2] Y
  cb : Bl 77 (w.heap.size + 1) #[.int .i64 k, .int .i64 m] Y
  hb : Below w.heap.size w Y
  rd : Rd Y A ((mask t [(k, m)]).map Value.bool)
  fm : FM Try.prog 77 enc2 Value.bool mb f Y
  ok : ∀ c b, f c = some b → b = withinV t k m c.1 c.2
  lt : w.heap.size + 1 < mb
theorem FM.isMap {α β : Type} {P : Program} {k : TypeId} {enc : α → Value} {ev : β → Value} {b : Nat} {f : α → Option β} {w : World} (h : FM P k enc ev b f w) : ∃ es cl, w.heap[b]? = some (.map es cl) := by
  obtain ⟨L, ⟨es, clock, hb, _⟩, _⟩ := h
  exact ⟨es, clock, hb⟩
section
variable {w Y Z : World} {A1 A2 A : Option Addr} {c1 c2 mb : Nat} {t : Topo} {k m : Int} {f : Int × Int → Option Bool}
theorem CvW.up (H : CvW w A1 A2 c1 c2 t k m A mb f Y) (hb : Below Y.heap.size Y Z) : CvW w A1 A2 c1 c2 t k m A mb f Z :=
  ⟨H.tb.up hb, H.cb.up hb, below_next H.hb hb, H.rd.below hb, H.fm.up hb, H.ok, H.lt⟩
theorem CvW.put (H : CvW w A1 A2 c1 c2 t k m A mb f Y) {c : Int × Int} {v : Bool} (hv : v = withinV t k m c.1 c.2) (hg : Y.grownBy Z (some mb)) (hf : FM Try.prog 77 enc2 Value.bool mb (fun x => if x = c then some v else f x) Z) :
    CvW w A1 A2 c1 c2 t k m A mb (fun x => if x = c then some v else f x) Z := by
  obtain ⟨es, cl, hm⟩ := H.fm.isMap
  have hl := H.lt
  refine ⟨H.tb.kpm (kp_of hg) hm, H.cb.kpm (kp_of hg) hm, H.hb.grown hg H.hb.size (fun k e => by cases e; omega), H.rd.kpm (kp_of hg) hm, hf, fun x b h => ?_, H.lt⟩
  by_cases e : x = c
  · subst e; simp at h; exact h ▸ hv
  · rw [if_neg e] at h; exact H.ok x b h
end
theorem covA_no {t : Topo} {k m a : Int} (h : part t k m (a / 2) = false) : covA t k m a := fun h1 => by rw [h] at h1; cases h1
theorem mask_atN {t : Topo} {k m : Int} {j : Nat} (h : j < 2 * t.ls.length) : (mask t [(k, m)])[j]? = some (part t k m ((j : Int) / 2)) := by
  simp [mask, h, partA]
end Go.Proofs.Ytdnjflpmbnjgeaa
