/-
  DERIVED. GIVEN WITH THE SEED: THE CARDS: each row of YtibennndjfhieaaDoorRows.lean that lists a variable, with what it lists TIED to the program's text (the seventh form; the later family's looks); each row that meets fmt, with fmt's text TOLD by the authors' own Lean function (tested against real Go, not proved from fmt's source: count such statements apart). THE CARD IS WHAT COUNTS. Prove the row's statement (the work); the ties are given (YtibennndjfhieaaDoorTie.lean); close each card by the builder's one call (the guide's Derived/Test/ToyasCard.lean, 'card_holds'). Laid BY PROGRAM, IN A SANDBOX (cutbox-door.mjs). By AI agents, Wed Nov 11 2026. No macro, syntax, notation, axiom, sorry.
-/
import Derived.Test.YtibennndjfhieaaDoorRows
import GoSem.ClaimSeven
namespace Go.Proofs.YtibennndjfhieaaDoor
namespace Rows

/-- THE TIED CARD OF 'waypointlaw10.ComponentAll'. -/
def componentAllCard : Claim7 := { stood := { row := componentAllRow, standIns := [], harness := (true, "43d4d67947f2549cc6e4f1b9da47adae72bd4fabc2076bab39ccd83039b2c0c3"), looks := true }, kinds := [], alts := [], laidByText := true, laidKinds := [.data, .data, .data], laidTests := true, laidLooks := .later }
def ComponentAllCardSaid : Prop := Claim7.holds Tryd.pinned (.plain (OpenSpec.ofChange componentAllSpec)) componentAllCard

/-- THE TIED CARD OF 'waypointlaw10.ComponentUnion'. -/
def componentUnionCard : Claim7 := { stood := { row := componentUnionRow, standIns := [], harness := (true, "43d4d67947f2549cc6e4f1b9da47adae72bd4fabc2076bab39ccd83039b2c0c3"), looks := true }, kinds := [], alts := [], laidByText := true, laidKinds := [.data, .data, .data], laidTests := true, laidLooks := .later }
def ComponentUnionCardSaid : Prop := Claim7.holds Tryd.pinned (.plain (OpenSpec.ofChange componentUnionSpec)) componentUnionCard

/-- THE TIED CARD OF 'waypointlaw10.ComponentMask'. -/
def componentMaskCard : Claim7 := { stood := { row := componentMaskRow, standIns := [], harness := (true, "43d4d67947f2549cc6e4f1b9da47adae72bd4fabc2076bab39ccd83039b2c0c3"), looks := true }, kinds := [], alts := [], laidByText := true, laidKinds := [.data, .data, .data], laidTests := true, laidLooks := .later }
def ComponentMaskCardSaid : Prop := Claim7.holds Tryd.pinned (.plain (OpenSpec.ofChange componentMaskSpec)) componentMaskCard

/-- THE TIED CARD OF 'waypointlaw10.ComponentWithin'. -/
def componentWithinCard : Claim7 := { stood := { row := componentWithinRow, standIns := [], harness := (true, "43d4d67947f2549cc6e4f1b9da47adae72bd4fabc2076bab39ccd83039b2c0c3"), looks := true }, kinds := [], alts := [], laidByText := true, laidKinds := [.data, .data, .data], laidTests := true, laidLooks := .later }
def ComponentWithinCardSaid : Prop := Claim7.holds Tryd.pinned (.plain (OpenSpec.ofChange componentWithinSpec)) componentWithinCard

/-- THE TIED CARD OF 'waypointlaw10.ComponentOrder'. -/
def componentOrderCard : Claim7 := { stood := { row := componentOrderRow, standIns := [], harness := (true, "43d4d67947f2549cc6e4f1b9da47adae72bd4fabc2076bab39ccd83039b2c0c3"), looks := true }, kinds := [], alts := [], laidByText := true, laidKinds := [.data, .data, .data], laidTests := true, laidLooks := .later }
def ComponentOrderCardSaid : Prop := Claim7.holds Tryd.pinned (.plain (OpenSpec.ofChange componentOrderSpec)) componentOrderCard

/-- THE TIED CARD OF 'waypointlaw10.ComponentText'. -/
def componentTextCard : Claim7 := { stood := { row := componentTextRow, standIns := [], harness := (true, "43d4d67947f2549cc6e4f1b9da47adae72bd4fabc2076bab39ccd83039b2c0c3"), looks := true }, kinds := [], alts := [], laidByText := true, laidKinds := [.data, .data, .data, .sentinel, .sentinel], laidTests := true, laidLooks := .later }
def ComponentTextCardSaid : Prop := Claim7.holds Tryd.pinned (.plain (OpenSpec.ofChange componentTextSpec)) componentTextCard

/-- THE TIED CARD OF 'waypointlaw10.ComponentParse'. -/
def componentParseCard : Claim7 := { stood := { row := componentParseRow, standIns := [], harness := (true, "43d4d67947f2549cc6e4f1b9da47adae72bd4fabc2076bab39ccd83039b2c0c3"), looks := true }, kinds := [], alts := [], laidByText := true, laidKinds := [.data, .data, .data, .sentinel, .sentinel], laidTests := true, laidLooks := .later }
def ComponentParseCardSaid : Prop := Claim7.holds Tryd.pinned (.plain (OpenSpec.ofChange componentParseSpec)) componentParseCard

/-- THE SECOND FORM's CARD OF 'waypointlaw10.ComponentAll'. -/
def componentAllUptoCard : Claim7 := { stood := { row := componentAllUptoRow, standIns := [], harness := (true, "43d4d67947f2549cc6e4f1b9da47adae72bd4fabc2076bab39ccd83039b2c0c3"), looks := true }, kinds := [], alts := [], laidByText := true, laidKinds := [.data, .data, .data], laidTests := true, laidLooks := .later }
def ComponentAllUptoCardSaid : Prop := Claim7.holds Tryd.pinned (.plain (OpenSpec.upto componentAllSpec)) componentAllUptoCard

/-- THE SECOND FORM's CARD OF 'waypointlaw10.ComponentUnion'. -/
def componentUnionUptoCard : Claim7 := { stood := { row := componentUnionUptoRow, standIns := [], harness := (true, "43d4d67947f2549cc6e4f1b9da47adae72bd4fabc2076bab39ccd83039b2c0c3"), looks := true }, kinds := [], alts := [], laidByText := true, laidKinds := [.data, .data, .data], laidTests := true, laidLooks := .later }
def ComponentUnionUptoCardSaid : Prop := Claim7.holds Tryd.pinned (.plain (OpenSpec.upto componentUnionSpec)) componentUnionUptoCard

/-- THE SECOND FORM's CARD OF 'waypointlaw10.ComponentMask'. -/
def componentMaskUptoCard : Claim7 := { stood := { row := componentMaskUptoRow, standIns := [], harness := (true, "43d4d67947f2549cc6e4f1b9da47adae72bd4fabc2076bab39ccd83039b2c0c3"), looks := true }, kinds := [], alts := [], laidByText := true, laidKinds := [.data, .data, .data], laidTests := true, laidLooks := .later }
def ComponentMaskUptoCardSaid : Prop := Claim7.holds Tryd.pinned (.plain (OpenSpec.upto componentMaskSpec)) componentMaskUptoCard

/-- THE SECOND FORM's CARD OF 'waypointlaw10.ComponentWithin'. -/
def componentWithinUptoCard : Claim7 := { stood := { row := componentWithinUptoRow, standIns := [], harness := (true, "43d4d67947f2549cc6e4f1b9da47adae72bd4fabc2076bab39ccd83039b2c0c3"), looks := true }, kinds := [], alts := [], laidByText := true, laidKinds := [.data, .data, .data], laidTests := true, laidLooks := .later }
def ComponentWithinUptoCardSaid : Prop := Claim7.holds Tryd.pinned (.plain (OpenSpec.upto componentWithinSpec)) componentWithinUptoCard

/-- THE SECOND FORM's CARD OF 'waypointlaw10.ComponentOrder'. -/
def componentOrderUptoCard : Claim7 := { stood := { row := componentOrderUptoRow, standIns := [], harness := (true, "43d4d67947f2549cc6e4f1b9da47adae72bd4fabc2076bab39ccd83039b2c0c3"), looks := true }, kinds := [], alts := [], laidByText := true, laidKinds := [.data, .data, .data], laidTests := true, laidLooks := .later }
def ComponentOrderUptoCardSaid : Prop := Claim7.holds Tryd.pinned (.plain (OpenSpec.upto componentOrderSpec)) componentOrderUptoCard

/-- THE SECOND FORM's CARD OF 'waypointlaw10.ComponentText'. -/
def componentTextUptoCard : Claim7 := { stood := { row := componentTextUptoRow, standIns := [], harness := (true, "43d4d67947f2549cc6e4f1b9da47adae72bd4fabc2076bab39ccd83039b2c0c3"), looks := true }, kinds := [], alts := [], laidByText := true, laidKinds := [.data, .data, .data, .sentinel, .sentinel], laidTests := true, laidLooks := .later }
def ComponentTextUptoCardSaid : Prop := Claim7.holds Tryd.pinned (.plain (OpenSpec.upto componentTextSpec)) componentTextUptoCard

/-- THE SECOND FORM's CARD OF 'waypointlaw10.ComponentParse'. -/
def componentParseUptoCard : Claim7 := { stood := { row := componentParseUptoRow, standIns := [], harness := (true, "43d4d67947f2549cc6e4f1b9da47adae72bd4fabc2076bab39ccd83039b2c0c3"), looks := true }, kinds := [], alts := [], laidByText := true, laidKinds := [.data, .data, .data, .sentinel, .sentinel], laidTests := true, laidLooks := .later }
def ComponentParseUptoCardSaid : Prop := Claim7.holds Tryd.pinned (.plain (OpenSpec.upto componentParseSpec)) componentParseUptoCard
end Rows
end Go.Proofs.YtibennndjfhieaaDoor
