/-
  The variables strconv.ErrRange and ErrSyntax, from a row's list; a string that came in.
-/
import Derived.Test.YtfbloolloifndaaDoorAtoi
import Derived.Test.YtfbloolloifndaaDoorOpen
import Derived.Stop.LaidErr
import Derived.ChangeMaps5
import Derived.MakeChecks
import Derived.RowKitTokens
namespace Go.Proofs.YtfbloolloifndaaDoor
open Go.RowKit Go.ChangeShapes Go.WideShapes Go.ChangeAt Go.Joins Go.OpenShut

theorem starES : "*" ++ "errors.errorString" = "*errors.errorString" := by decide
theorem rowES (u : TypeId) (h : Tryd.prog.typeName? 3 u = some "*errors.errorString") : u = 128 :=
  typeName_ptr_named (nm := "errors.errorString") (by rw [starES]; kernel_rfl) (by kernel_rfl) (by decide) u (by rw [starES]; exact h)
theorem gER : Tryd.prog.globalNamed "strconv.ErrRange" = some 7 := by kernel_rfl
theorem gES : Tryd.prog.globalNamed "strconv.ErrSyntax" = some 6 := by kernel_rfl
theorem gERt : (Tryd.prog.globals[(7 : Nat)]?).map (·.type) = some 63 := by kernel_rfl
theorem gESt : (Tryd.prog.globals[(6 : Nat)]?).map (·.type) = some 63 := by kernel_rfl
theorem errs_of {ta tb : List UInt8} {r : List (String × DataW Unit)} {W : World} (h : laidMet Tryd.prog (("strconv.ErrRange", .iface "*errors.errorString" (.ptr (.agg [.lit (.string ta)]))) :: ("strconv.ErrSyntax", .iface "*errors.errorString" (.ptr (.agg [.lit (.string tb)]))) :: r) W) : Errs W := by
  obtain ⟨a1, s1, hv1, _⟩ := laid_sentinel h gER gERt Tryd.underlying63 rowES Tryd.underlying128 Tryd.underlying130 rfl rfl Tryd.underlying9 (by kernel_rfl) (by kernel_rfl)
  obtain ⟨a2, s2, hv2, _⟩ := laid_sentinel h.tail gES gESt Tryd.underlying63 rowES Tryd.underlying128 Tryd.underlying130 rfl rfl Tryd.underlying9 (by kernel_rfl) (by kernel_rfl)
  exact ⟨⟨_, _, hv2⟩, _, _, hv1⟩

section
variable {H : Type} {enc : TypeId × Value → H} {w : World} {base : Nat} {spare : Nat → Bool} {held : Bool}
set_option maxRecDepth 100000 in
theorem open_str {r : Reach} {b0 : Nat} {v : Value} {d : DataW H} {ps : List MemPlace} (hval : Value.okWide Tryd.prog w r b0 9 v) (hd : DataW.Trod enc Tryd.prog w base spare held 9 v d ps) :
    ∃ l : List UInt8, v = .string ⟨l.toArray⟩ ∧ l.length ≤ maxLen := by
  obtain ⟨s, rfl, _, _, hs⟩ := Go.ChangeMaps.open_string Tryd.underlying9 hval hd
  refine ⟨s.data.toList, by simp, ?_⟩
  rw [Array.length_toList]
  exact hs
end
end Go.Proofs.YtfbloolloifndaaDoor
