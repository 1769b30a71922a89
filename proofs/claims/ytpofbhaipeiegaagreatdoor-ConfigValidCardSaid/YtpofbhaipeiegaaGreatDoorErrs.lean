/-
  The variables strconv.ErrRange and ErrSyntax, from a row's list; a string that came in.
-/
import Derived.Test.YtpofbhaipeiegaaGreatDoorAtoi
import Derived.Test.YtpofbhaipeiegaaGreatDoorOpen
import Derived.Stop.LaidErr
import Derived.ChangeMaps5
import Derived.MakeChecks
import Derived.RowKitTokens
namespace Go.Proofs.YtpofbhaipeiegaaGreatDoor
open Go.RowKit Go.ChangeShapes Go.WideShapes Go.ChangeAt Go.Joins Go.OpenShut

theorem starES : "*" ++ "errors.errorString" = "*errors.errorString" := by decide
theorem rowES (u : TypeId) (h : Tryz.prog.typeName? 3 u = some "*errors.errorString") : u = 196 :=
  typeName_ptr_named (nm := "errors.errorString") (by rw [starES]; kernel_rfl) (by kernel_rfl) (by decide) u (by rw [starES]; exact h)
theorem gER : Tryz.prog.globalNamed "strconv.ErrRange" = some 5 := by kernel_rfl
theorem gES : Tryz.prog.globalNamed "strconv.ErrSyntax" = some 4 := by kernel_rfl
theorem gERt : (Tryz.prog.globals[(5 : Nat)]?).map (·.type) = some 50 := by kernel_rfl
theorem gESt : (Tryz.prog.globals[(4 : Nat)]?).map (·.type) = some 50 := by kernel_rfl
theorem errs_of {ta tb : List UInt8} {r : List (String × DataW Unit)} {W : World} (h : laidMet Tryz.prog (("strconv.ErrRange", .iface "*errors.errorString" (.ptr (.agg [.lit (.string ta)]))) :: ("strconv.ErrSyntax", .iface "*errors.errorString" (.ptr (.agg [.lit (.string tb)]))) :: r) W) : Errs W := by
  obtain ⟨a1, s1, hv1, _⟩ := laid_sentinel h gER gERt Tryz.underlying50 rowES Tryz.underlying196 Tryz.underlying198 rfl rfl Tryz.underlying9 (by kernel_rfl) (by kernel_rfl)
  obtain ⟨a2, s2, hv2, _⟩ := laid_sentinel h.tail gES gESt Tryz.underlying50 rowES Tryz.underlying196 Tryz.underlying198 rfl rfl Tryz.underlying9 (by kernel_rfl) (by kernel_rfl)
  exact ⟨⟨_, _, hv2⟩, _, _, hv1⟩

section
variable {H : Type} {enc : TypeId × Value → H} {w : World} {base : Nat} {spare : Nat → Bool} {held : Bool}
set_option maxRecDepth 100000 in
theorem open_str {r : Reach} {b0 : Nat} {v : Value} {d : DataW H} {ps : List MemPlace} (hval : Value.okWide Tryz.prog w r b0 9 v) (hd : DataW.Trod enc Tryz.prog w base spare held 9 v d ps) :
    ∃ l : List UInt8, v = .string ⟨l.toArray⟩ ∧ l.length ≤ maxLen := by
  obtain ⟨s, rfl, _, _, hs⟩ := Go.ChangeMaps.open_string Tryz.underlying9 hval hd
  refine ⟨s.data.toList, by simp, ?_⟩
  rw [Array.length_toList]
  exact hs
end
end Go.Proofs.YtpofbhaipeiegaaGreatDoor
