/-
  DERIVED. GIVEN WITH THE SEED: THE CARDS: each row of YtfimacgmciogmaaGreatDoorRows.lean that lists a variable, with what it lists TIED to the program's text (the seventh form; the later family's looks); each row that meets fmt, with fmt's text TOLD by the authors' own Lean function (tested against real Go, not proved from fmt's source: count such statements apart). THE CARD IS WHAT COUNTS. Prove the row's statement (the work); the ties are given (YtfimacgmciogmaaGreatDoorTie.lean); close each card by the builder's one call (the guide's Derived/Test/ToyasCard.lean, 'card_holds'). Laid BY PROGRAM, IN A SANDBOX (cutbox-door.mjs). By AI agents, Wed Nov 11 2026. No macro, syntax, notation, axiom, sorry.
-/
import Derived.Test.YtfimacgmciogmaaGreatDoorRows
import GoSem.ClaimSeven
namespace Go.Proofs.YtfimacgmciogmaaGreatDoor
namespace Rows

/-- THE TIED CARD OF 'waypointlaw15.ConfigOwn'. -/
def configOwnCard : Claim7 := { stood := { row := configOwnRow, standIns := [], harness := (true, "9ba035f8da7769c14b767c670fa817ce09362ea3a77507ecf3e00341db45939e"), looks := true }, kinds := [], alts := [], laidByText := true, laidKinds := [.data, .data, .data, .data, .sentinel, .sentinel, .pinned], laidTests := true, laidLooks := .later }
def ConfigOwnCardSaid : Prop := Claim7.holds Tryz.pinned (.plain (OpenSpec.ofChange configOwnSpec)) configOwnCard

/-- THE SECOND FORM's CARD OF 'waypointlaw15.ConfigOwn'. -/
def configOwnUptoCard : Claim7 := { stood := { row := configOwnUptoRow, standIns := [], harness := (true, "9ba035f8da7769c14b767c670fa817ce09362ea3a77507ecf3e00341db45939e"), looks := true }, kinds := [], alts := [], laidByText := true, laidKinds := [.data, .data, .data, .data, .sentinel, .sentinel, .pinned], laidTests := true, laidLooks := .later }
def ConfigOwnUptoCardSaid : Prop := Claim7.holds Tryz.pinned (.plain (OpenSpec.upto configOwnSpec)) configOwnUptoCard
end Rows
end Go.Proofs.YtfimacgmciogmaaGreatDoor
