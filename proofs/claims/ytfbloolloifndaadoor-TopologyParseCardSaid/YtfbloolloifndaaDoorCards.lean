/-
  DERIVED. GIVEN WITH THE SEED: THE CARDS: each row of YtfbloolloifndaaDoorRows.lean that lists a variable, with what it lists TIED to the program's text (the seventh form; the later family's looks); each row that meets fmt, with fmt's text TOLD by the authors' own Lean function (tested against real Go, not proved from fmt's source: count such statements apart). THE CARD IS WHAT COUNTS. Prove the row's statement (the work); the ties are given (YtfbloolloifndaaDoorTie.lean); close each card by the builder's one call (the guide's Derived/Test/ToyasCard.lean, 'card_holds'). Laid BY PROGRAM, IN A SANDBOX (cutbox-door.mjs). By AI agents, Wed Nov 11 2026. No macro, syntax, notation, axiom, sorry.
-/
import Derived.Test.YtfbloolloifndaaDoorRows
import GoSem.ClaimSeven
namespace Go.Proofs.YtfbloolloifndaaDoor
namespace Rows

/-- THE TIED CARD OF 'waypointlaw09.TopologyText'. -/
def topologyTextCard : Claim7 := { stood := { row := topologyTextRow, standIns := [], harness := (true, "b109e42ae63f8e7a2f5d6730fcb265bbd79bdcba34ab3e5578008c9673f655d3"), looks := true }, kinds := [], alts := [], laidByText := true, laidKinds := [.data, .data, .data, .data, .sentinel, .sentinel, .listed, .data, .pinned], laidTests := true, laidLooks := .later }
def TopologyTextCardSaid : Prop := Claim7.holds Tryd.pinned (.plain (OpenSpec.ofChange topologyTextSpec)) topologyTextCard

/-- THE TIED CARD OF 'waypointlaw09.TopologyParse'. -/
def topologyParseCard : Claim7 := { stood := { row := topologyParseRow, standIns := [], harness := (true, "b109e42ae63f8e7a2f5d6730fcb265bbd79bdcba34ab3e5578008c9673f655d3"), looks := true }, kinds := [], alts := [], laidByText := true, laidKinds := [.data, .data, .data, .data, .sentinel, .sentinel, .listed, .data, .pinned], laidTests := true, laidLooks := .later }
def TopologyParseCardSaid : Prop := Claim7.holds Tryd.pinned (.plain (OpenSpec.ofChange topologyParseSpec)) topologyParseCard

/-- THE SECOND FORM's CARD OF 'waypointlaw09.TopologyText'. -/
def topologyTextUptoCard : Claim7 := { stood := { row := topologyTextUptoRow, standIns := [], harness := (true, "b109e42ae63f8e7a2f5d6730fcb265bbd79bdcba34ab3e5578008c9673f655d3"), looks := true }, kinds := [], alts := [], laidByText := true, laidKinds := [.data, .data, .data, .data, .sentinel, .sentinel, .listed, .data, .pinned], laidTests := true, laidLooks := .later }
def TopologyTextUptoCardSaid : Prop := Claim7.holds Tryd.pinned (.plain (OpenSpec.upto topologyTextSpec)) topologyTextUptoCard

/-- THE SECOND FORM's CARD OF 'waypointlaw09.TopologyParse'. -/
def topologyParseUptoCard : Claim7 := { stood := { row := topologyParseUptoRow, standIns := [], harness := (true, "b109e42ae63f8e7a2f5d6730fcb265bbd79bdcba34ab3e5578008c9673f655d3"), looks := true }, kinds := [], alts := [], laidByText := true, laidKinds := [.data, .data, .data, .data, .sentinel, .sentinel, .listed, .data, .pinned], laidTests := true, laidLooks := .later }
def TopologyParseUptoCardSaid : Prop := Claim7.holds Tryd.pinned (.plain (OpenSpec.upto topologyParseSpec)) topologyParseUptoCard
end Rows
end Go.Proofs.YtfbloolloifndaaDoor
