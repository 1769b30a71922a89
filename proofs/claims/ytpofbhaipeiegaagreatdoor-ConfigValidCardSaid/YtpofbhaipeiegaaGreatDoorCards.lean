/-
  DERIVED. GIVEN WITH THE SEED: THE CARDS: each row of YtpofbhaipeiegaaGreatDoorRows.lean that lists a variable, with what it lists TIED to the program's text (the seventh form; the later family's looks); each row that meets fmt, with fmt's text TOLD by the authors' own Lean function (tested against real Go, not proved from fmt's source: count such statements apart). THE CARD IS WHAT COUNTS. Prove the row's statement (the work); the ties are given (YtpofbhaipeiegaaGreatDoorTie.lean); close each card by the builder's one call (the guide's Derived/Test/ToyasCard.lean, 'card_holds'). Laid BY PROGRAM, IN A SANDBOX (cutbox-door.mjs). By AI agents, Wed Nov 11 2026. No macro, syntax, notation, axiom, sorry.
-/
import Derived.Test.YtpofbhaipeiegaaGreatDoorRows
import GoSem.ClaimSeven
namespace Go.Proofs.YtpofbhaipeiegaaGreatDoor
namespace Rows

/-- THE TIED CARD OF 'waypointlaw15.ConfigValues'. -/
def configValuesCard : Claim7 := { stood := { row := configValuesRow, standIns := [], harness := (true, "9c4b9bcee51d6f79de028a2f5aceb900a498663765a999ce0e26b07e2a41af60"), looks := true }, kinds := [], alts := [], laidByText := true, laidKinds := [.data, .data, .data, .data, .sentinel, .sentinel, .pinned], laidTests := true, laidLooks := .later }
def ConfigValuesCardSaid : Prop := Claim7.holds Tryz.pinned (.plain (OpenSpec.ofChange configValuesSpec)) configValuesCard

/-- THE TIED CARD OF 'waypointlaw15.ConfigFirst'. -/
def configFirstCard : Claim7 := { stood := { row := configFirstRow, standIns := [], harness := (true, "9c4b9bcee51d6f79de028a2f5aceb900a498663765a999ce0e26b07e2a41af60"), looks := true }, kinds := [], alts := [], laidByText := true, laidKinds := [.data, .data, .data, .data, .sentinel, .sentinel, .pinned], laidTests := true, laidLooks := .later }
def ConfigFirstCardSaid : Prop := Claim7.holds Tryz.pinned (.plain (OpenSpec.ofChange configFirstSpec)) configFirstCard

/-- THE TIED CARD OF 'waypointlaw15.ConfigSpaces'. -/
def configSpacesCard : Claim7 := { stood := { row := configSpacesRow, standIns := [], harness := (true, "9c4b9bcee51d6f79de028a2f5aceb900a498663765a999ce0e26b07e2a41af60"), looks := true }, kinds := [], alts := [], laidByText := true, laidKinds := [.data, .data, .data, .data, .sentinel, .sentinel, .pinned], laidTests := true, laidLooks := .later }
def ConfigSpacesCardSaid : Prop := Claim7.holds Tryz.pinned (.plain (OpenSpec.ofChange configSpacesSpec)) configSpacesCard

/-- THE TIED CARD OF 'waypointlaw15.ConfigValid'. -/
def configValidCard : Claim7 := { stood := { row := configValidRow, standIns := [], harness := (true, "9c4b9bcee51d6f79de028a2f5aceb900a498663765a999ce0e26b07e2a41af60"), looks := true }, kinds := [], alts := [], laidByText := true, laidKinds := [.data, .data, .data, .data, .sentinel, .sentinel, .pinned], laidTests := true, laidLooks := .later }
def ConfigValidCardSaid : Prop := Claim7.holds Tryz.pinned (.plain (OpenSpec.ofChange configValidSpec)) configValidCard

/-- THE TIED CARD OF 'waypointlaw15.ConfigOwn'. -/
def configOwnCard : Claim7 := { stood := { row := configOwnRow, standIns := [], harness := (true, "9c4b9bcee51d6f79de028a2f5aceb900a498663765a999ce0e26b07e2a41af60"), looks := true }, kinds := [], alts := [], laidByText := true, laidKinds := [.data, .data, .data, .data, .sentinel, .sentinel, .pinned], laidTests := true, laidLooks := .later }
def ConfigOwnCardSaid : Prop := Claim7.holds Tryz.pinned (.plain (OpenSpec.ofChange configOwnSpec)) configOwnCard

/-- THE SECOND FORM's CARD OF 'waypointlaw15.ConfigValues'. -/
def configValuesUptoCard : Claim7 := { stood := { row := configValuesUptoRow, standIns := [], harness := (true, "9c4b9bcee51d6f79de028a2f5aceb900a498663765a999ce0e26b07e2a41af60"), looks := true }, kinds := [], alts := [], laidByText := true, laidKinds := [.data, .data, .data, .data, .sentinel, .sentinel, .pinned], laidTests := true, laidLooks := .later }
def ConfigValuesUptoCardSaid : Prop := Claim7.holds Tryz.pinned (.plain (OpenSpec.upto configValuesSpec)) configValuesUptoCard

/-- THE SECOND FORM's CARD OF 'waypointlaw15.ConfigFirst'. -/
def configFirstUptoCard : Claim7 := { stood := { row := configFirstUptoRow, standIns := [], harness := (true, "9c4b9bcee51d6f79de028a2f5aceb900a498663765a999ce0e26b07e2a41af60"), looks := true }, kinds := [], alts := [], laidByText := true, laidKinds := [.data, .data, .data, .data, .sentinel, .sentinel, .pinned], laidTests := true, laidLooks := .later }
def ConfigFirstUptoCardSaid : Prop := Claim7.holds Tryz.pinned (.plain (OpenSpec.upto configFirstSpec)) configFirstUptoCard

/-- THE SECOND FORM's CARD OF 'waypointlaw15.ConfigSpaces'. -/
def configSpacesUptoCard : Claim7 := { stood := { row := configSpacesUptoRow, standIns := [], harness := (true, "9c4b9bcee51d6f79de028a2f5aceb900a498663765a999ce0e26b07e2a41af60"), looks := true }, kinds := [], alts := [], laidByText := true, laidKinds := [.data, .data, .data, .data, .sentinel, .sentinel, .pinned], laidTests := true, laidLooks := .later }
def ConfigSpacesUptoCardSaid : Prop := Claim7.holds Tryz.pinned (.plain (OpenSpec.upto configSpacesSpec)) configSpacesUptoCard

/-- THE SECOND FORM's CARD OF 'waypointlaw15.ConfigValid'. -/
def configValidUptoCard : Claim7 := { stood := { row := configValidUptoRow, standIns := [], harness := (true, "9c4b9bcee51d6f79de028a2f5aceb900a498663765a999ce0e26b07e2a41af60"), looks := true }, kinds := [], alts := [], laidByText := true, laidKinds := [.data, .data, .data, .data, .sentinel, .sentinel, .pinned], laidTests := true, laidLooks := .later }
def ConfigValidUptoCardSaid : Prop := Claim7.holds Tryz.pinned (.plain (OpenSpec.upto configValidSpec)) configValidUptoCard

/-- THE SECOND FORM's CARD OF 'waypointlaw15.ConfigOwn'. -/
def configOwnUptoCard : Claim7 := { stood := { row := configOwnUptoRow, standIns := [], harness := (true, "9c4b9bcee51d6f79de028a2f5aceb900a498663765a999ce0e26b07e2a41af60"), looks := true }, kinds := [], alts := [], laidByText := true, laidKinds := [.data, .data, .data, .data, .sentinel, .sentinel, .pinned], laidTests := true, laidLooks := .later }
def ConfigOwnUptoCardSaid : Prop := Claim7.holds Tryz.pinned (.plain (OpenSpec.upto configOwnSpec)) configOwnUptoCard
end Rows
end Go.Proofs.YtpofbhaipeiegaaGreatDoor
