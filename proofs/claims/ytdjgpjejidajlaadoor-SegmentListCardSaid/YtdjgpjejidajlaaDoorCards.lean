/-
  DERIVED. GIVEN WITH THE SEED: THE CARDS: each row of YtdjgpjejidajlaaDoorRows.lean that lists a variable, with what it lists TIED to the program's text (the seventh form; the later family's looks); each row that meets fmt, with fmt's text TOLD by the authors' own Lean function (tested against real Go, not proved from fmt's source: count such statements apart). THE CARD IS WHAT COUNTS. Prove the row's statement (the work); the ties are given (YtdjgpjejidajlaaDoorTie.lean); close each card by the builder's one call (the guide's Derived/Test/ToyasCard.lean, 'card_holds'). Laid BY PROGRAM, IN A SANDBOX (cutbox-door.mjs). By AI agents, Wed Nov 11 2026. No macro, syntax, notation, axiom, sorry.
-/
import Derived.Test.YtdjgpjejidajlaaDoorRows
import GoSem.ClaimSeven
namespace Go.Proofs.YtdjgpjejidajlaaDoor
namespace Rows

/-- THE TIED CARD OF 'waypointlaw18.SegmentText'. -/
def segmentTextCard : Claim7 := { stood := { row := segmentTextRow, standIns := [], harness := (true, "c4be1a390f54ca3aa0d2f2b1020621e00eb3ed087fb0bceb0ce75322ecea3fc6"), looks := true }, kinds := [], alts := [], laidByText := true, laidKinds := [.data, .data, .data, .sentinel, .sentinel], laidTests := true, laidLooks := .later }
def SegmentTextCardSaid : Prop := Claim7.holds Tryd.pinned (.plain (OpenSpec.ofChange segmentTextSpec)) segmentTextCard

/-- THE TIED CARD OF 'waypointlaw18.SegmentParse'. -/
def segmentParseCard : Claim7 := { stood := { row := segmentParseRow, standIns := [], harness := (true, "c4be1a390f54ca3aa0d2f2b1020621e00eb3ed087fb0bceb0ce75322ecea3fc6"), looks := true }, kinds := [], alts := [], laidByText := true, laidKinds := [.data, .data, .data, .sentinel, .sentinel], laidTests := true, laidLooks := .later }
def SegmentParseCardSaid : Prop := Claim7.holds Tryd.pinned (.plain (OpenSpec.ofChange segmentParseSpec)) segmentParseCard

/-- THE TIED CARD OF 'waypointlaw18.SegmentList'. -/
def segmentListCard : Claim7 := { stood := { row := segmentListRow, standIns := [], harness := (true, "c4be1a390f54ca3aa0d2f2b1020621e00eb3ed087fb0bceb0ce75322ecea3fc6"), looks := true }, kinds := [], alts := [], laidByText := true, laidKinds := [.data, .data, .data, .data, .sentinel, .sentinel, .pinned], laidTests := true, laidLooks := .later }
def SegmentListCardSaid : Prop := Claim7.holds Tryd.pinned (.plain (OpenSpec.ofChange segmentListSpec)) segmentListCard

/-- THE TIED CARD OF 'waypointlaw18.SegmentParseList'. -/
def segmentParseListCard : Claim7 := { stood := { row := segmentParseListRow, standIns := [], harness := (true, "c4be1a390f54ca3aa0d2f2b1020621e00eb3ed087fb0bceb0ce75322ecea3fc6"), looks := true }, kinds := [], alts := [], laidByText := true, laidKinds := [.data, .data, .data, .data, .sentinel, .sentinel, .pinned], laidTests := true, laidLooks := .later }
def SegmentParseListCardSaid : Prop := Claim7.holds Tryd.pinned (.plain (OpenSpec.ofChange segmentParseListSpec)) segmentParseListCard

/-- THE TIED CARD OF 'waypointlaw09.TopologyText'. -/
def topologyTextCard : Claim7 := { stood := { row := topologyTextRow, standIns := [], harness := (true, "c4be1a390f54ca3aa0d2f2b1020621e00eb3ed087fb0bceb0ce75322ecea3fc6"), looks := true }, kinds := [], alts := [], laidByText := true, laidKinds := [.data, .data, .data, .data, .sentinel, .sentinel, .listed, .data, .pinned], laidTests := true, laidLooks := .later }
def TopologyTextCardSaid : Prop := Claim7.holds Tryd.pinned (.plain (OpenSpec.ofChange topologyTextSpec)) topologyTextCard

/-- THE TIED CARD OF 'waypointlaw09.TopologyParse'. -/
def topologyParseCard : Claim7 := { stood := { row := topologyParseRow, standIns := [], harness := (true, "c4be1a390f54ca3aa0d2f2b1020621e00eb3ed087fb0bceb0ce75322ecea3fc6"), looks := true }, kinds := [], alts := [], laidByText := true, laidKinds := [.data, .data, .data, .data, .sentinel, .sentinel, .listed, .data, .pinned], laidTests := true, laidLooks := .later }
def TopologyParseCardSaid : Prop := Claim7.holds Tryd.pinned (.plain (OpenSpec.ofChange topologyParseSpec)) topologyParseCard

/-- THE SECOND FORM's CARD OF 'waypointlaw18.SegmentText'. -/
def segmentTextUptoCard : Claim7 := { stood := { row := segmentTextUptoRow, standIns := [], harness := (true, "c4be1a390f54ca3aa0d2f2b1020621e00eb3ed087fb0bceb0ce75322ecea3fc6"), looks := true }, kinds := [], alts := [], laidByText := true, laidKinds := [.data, .data, .data, .sentinel, .sentinel], laidTests := true, laidLooks := .later }
def SegmentTextUptoCardSaid : Prop := Claim7.holds Tryd.pinned (.plain (OpenSpec.upto segmentTextSpec)) segmentTextUptoCard

/-- THE SECOND FORM's CARD OF 'waypointlaw18.SegmentParse'. -/
def segmentParseUptoCard : Claim7 := { stood := { row := segmentParseUptoRow, standIns := [], harness := (true, "c4be1a390f54ca3aa0d2f2b1020621e00eb3ed087fb0bceb0ce75322ecea3fc6"), looks := true }, kinds := [], alts := [], laidByText := true, laidKinds := [.data, .data, .data, .sentinel, .sentinel], laidTests := true, laidLooks := .later }
def SegmentParseUptoCardSaid : Prop := Claim7.holds Tryd.pinned (.plain (OpenSpec.upto segmentParseSpec)) segmentParseUptoCard

/-- THE SECOND FORM's CARD OF 'waypointlaw18.SegmentList'. -/
def segmentListUptoCard : Claim7 := { stood := { row := segmentListUptoRow, standIns := [], harness := (true, "c4be1a390f54ca3aa0d2f2b1020621e00eb3ed087fb0bceb0ce75322ecea3fc6"), looks := true }, kinds := [], alts := [], laidByText := true, laidKinds := [.data, .data, .data, .data, .sentinel, .sentinel, .pinned], laidTests := true, laidLooks := .later }
def SegmentListUptoCardSaid : Prop := Claim7.holds Tryd.pinned (.plain (OpenSpec.upto segmentListSpec)) segmentListUptoCard

/-- THE SECOND FORM's CARD OF 'waypointlaw18.SegmentParseList'. -/
def segmentParseListUptoCard : Claim7 := { stood := { row := segmentParseListUptoRow, standIns := [], harness := (true, "c4be1a390f54ca3aa0d2f2b1020621e00eb3ed087fb0bceb0ce75322ecea3fc6"), looks := true }, kinds := [], alts := [], laidByText := true, laidKinds := [.data, .data, .data, .data, .sentinel, .sentinel, .pinned], laidTests := true, laidLooks := .later }
def SegmentParseListUptoCardSaid : Prop := Claim7.holds Tryd.pinned (.plain (OpenSpec.upto segmentParseListSpec)) segmentParseListUptoCard

/-- THE SECOND FORM's CARD OF 'waypointlaw09.TopologyText'. -/
def topologyTextUptoCard : Claim7 := { stood := { row := topologyTextUptoRow, standIns := [], harness := (true, "c4be1a390f54ca3aa0d2f2b1020621e00eb3ed087fb0bceb0ce75322ecea3fc6"), looks := true }, kinds := [], alts := [], laidByText := true, laidKinds := [.data, .data, .data, .data, .sentinel, .sentinel, .listed, .data, .pinned], laidTests := true, laidLooks := .later }
def TopologyTextUptoCardSaid : Prop := Claim7.holds Tryd.pinned (.plain (OpenSpec.upto topologyTextSpec)) topologyTextUptoCard

/-- THE SECOND FORM's CARD OF 'waypointlaw09.TopologyParse'. -/
def topologyParseUptoCard : Claim7 := { stood := { row := topologyParseUptoRow, standIns := [], harness := (true, "c4be1a390f54ca3aa0d2f2b1020621e00eb3ed087fb0bceb0ce75322ecea3fc6"), looks := true }, kinds := [], alts := [], laidByText := true, laidKinds := [.data, .data, .data, .data, .sentinel, .sentinel, .listed, .data, .pinned], laidTests := true, laidLooks := .later }
def TopologyParseUptoCardSaid : Prop := Claim7.holds Tryd.pinned (.plain (OpenSpec.upto topologyParseSpec)) topologyParseUptoCard
end Rows
end Go.Proofs.YtdjgpjejidajlaaDoor
