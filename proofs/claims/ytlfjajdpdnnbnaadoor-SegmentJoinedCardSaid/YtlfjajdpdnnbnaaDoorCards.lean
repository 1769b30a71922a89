/-
  DERIVED. GIVEN WITH THE SEED: THE CARDS: each row of YtlfjajdpdnnbnaaDoorRows.lean that lists a variable, with what it lists TIED to the program's text (the seventh form; the later family's looks); each row that meets fmt, with fmt's text TOLD by the authors' own Lean function (tested against real Go, not proved from fmt's source: count such statements apart). THE CARD IS WHAT COUNTS. Prove the row's statement (the work); the ties are given (YtlfjajdpdnnbnaaDoorTie.lean); close each card by the builder's one call (the guide's Derived/Test/ToyasCard.lean, 'card_holds'). Laid BY PROGRAM, IN A SANDBOX (cutbox-door.mjs). By AI agents, Wed Nov 11 2026. No macro, syntax, notation, axiom, sorry.
-/
import Derived.Test.YtlfjajdpdnnbnaaDoorRows
import GoSem.ClaimSeven
namespace Go.Proofs.YtlfjajdpdnnbnaaDoor
namespace Rows

/-- THE TIED CARD OF 'waypointlaw18.SegmentValid'. -/
def segmentValidCard : Claim7 := { stood := { row := segmentValidRow, standIns := [], harness := (true, "73dbda517fe056e7f14a23478bb8796f733383107d0ce471ecc812eff5fdcc8a"), looks := true }, kinds := [], alts := [], laidByText := true, laidKinds := [.data, .data, .data], laidTests := true, laidLooks := .later }
def SegmentValidCardSaid : Prop := Claim7.holds Tryd.pinned (.plain (OpenSpec.ofChange segmentValidSpec)) segmentValidCard

/-- THE TIED CARD OF 'waypointlaw18.SegmentEnds'. -/
def segmentEndsCard : Claim7 := { stood := { row := segmentEndsRow, standIns := [], harness := (true, "73dbda517fe056e7f14a23478bb8796f733383107d0ce471ecc812eff5fdcc8a"), looks := true }, kinds := [], alts := [], laidByText := true, laidKinds := [.data, .data, .data], laidTests := true, laidLooks := .later }
def SegmentEndsCardSaid : Prop := Claim7.holds Tryd.pinned (.plain (OpenSpec.ofChange segmentEndsSpec)) segmentEndsCard

/-- THE TIED CARD OF 'waypointlaw18.SegmentJoined'. -/
def segmentJoinedCard : Claim7 := { stood := { row := segmentJoinedRow, standIns := [], harness := (true, "73dbda517fe056e7f14a23478bb8796f733383107d0ce471ecc812eff5fdcc8a"), looks := true }, kinds := [], alts := [], laidByText := true, laidKinds := [.data, .data, .data], laidTests := true, laidLooks := .later }
def SegmentJoinedCardSaid : Prop := Claim7.holds Tryd.pinned (.plain (OpenSpec.ofChange segmentJoinedSpec)) segmentJoinedCard

/-- THE TIED CARD OF 'waypointlaw18.SegmentText'. -/
def segmentTextCard : Claim7 := { stood := { row := segmentTextRow, standIns := [], harness := (true, "73dbda517fe056e7f14a23478bb8796f733383107d0ce471ecc812eff5fdcc8a"), looks := true }, kinds := [], alts := [], laidByText := true, laidKinds := [.data, .data, .data, .sentinel, .sentinel], laidTests := true, laidLooks := .later }
def SegmentTextCardSaid : Prop := Claim7.holds Tryd.pinned (.plain (OpenSpec.ofChange segmentTextSpec)) segmentTextCard

/-- THE TIED CARD OF 'waypointlaw18.SegmentParse'. -/
def segmentParseCard : Claim7 := { stood := { row := segmentParseRow, standIns := [], harness := (true, "73dbda517fe056e7f14a23478bb8796f733383107d0ce471ecc812eff5fdcc8a"), looks := true }, kinds := [], alts := [], laidByText := true, laidKinds := [.data, .data, .data, .sentinel, .sentinel], laidTests := true, laidLooks := .later }
def SegmentParseCardSaid : Prop := Claim7.holds Tryd.pinned (.plain (OpenSpec.ofChange segmentParseSpec)) segmentParseCard

/-- THE TIED CARD OF 'waypointlaw18.SegmentList'. -/
def segmentListCard : Claim7 := { stood := { row := segmentListRow, standIns := [], harness := (true, "73dbda517fe056e7f14a23478bb8796f733383107d0ce471ecc812eff5fdcc8a"), looks := true }, kinds := [], alts := [], laidByText := true, laidKinds := [.data, .data, .data, .data, .sentinel, .sentinel, .pinned], laidTests := true, laidLooks := .later }
def SegmentListCardSaid : Prop := Claim7.holds Tryd.pinned (.plain (OpenSpec.ofChange segmentListSpec)) segmentListCard

/-- THE TIED CARD OF 'waypointlaw18.SegmentParseList'. -/
def segmentParseListCard : Claim7 := { stood := { row := segmentParseListRow, standIns := [], harness := (true, "73dbda517fe056e7f14a23478bb8796f733383107d0ce471ecc812eff5fdcc8a"), looks := true }, kinds := [], alts := [], laidByText := true, laidKinds := [.data, .data, .data, .data, .sentinel, .sentinel, .pinned], laidTests := true, laidLooks := .later }
def SegmentParseListCardSaid : Prop := Claim7.holds Tryd.pinned (.plain (OpenSpec.ofChange segmentParseListSpec)) segmentParseListCard

/-- THE SECOND FORM's CARD OF 'waypointlaw18.SegmentValid'. -/
def segmentValidUptoCard : Claim7 := { stood := { row := segmentValidUptoRow, standIns := [], harness := (true, "73dbda517fe056e7f14a23478bb8796f733383107d0ce471ecc812eff5fdcc8a"), looks := true }, kinds := [], alts := [], laidByText := true, laidKinds := [.data, .data, .data], laidTests := true, laidLooks := .later }
def SegmentValidUptoCardSaid : Prop := Claim7.holds Tryd.pinned (.plain (OpenSpec.upto segmentValidSpec)) segmentValidUptoCard

/-- THE SECOND FORM's CARD OF 'waypointlaw18.SegmentEnds'. -/
def segmentEndsUptoCard : Claim7 := { stood := { row := segmentEndsUptoRow, standIns := [], harness := (true, "73dbda517fe056e7f14a23478bb8796f733383107d0ce471ecc812eff5fdcc8a"), looks := true }, kinds := [], alts := [], laidByText := true, laidKinds := [.data, .data, .data], laidTests := true, laidLooks := .later }
def SegmentEndsUptoCardSaid : Prop := Claim7.holds Tryd.pinned (.plain (OpenSpec.upto segmentEndsSpec)) segmentEndsUptoCard

/-- THE SECOND FORM's CARD OF 'waypointlaw18.SegmentJoined'. -/
def segmentJoinedUptoCard : Claim7 := { stood := { row := segmentJoinedUptoRow, standIns := [], harness := (true, "73dbda517fe056e7f14a23478bb8796f733383107d0ce471ecc812eff5fdcc8a"), looks := true }, kinds := [], alts := [], laidByText := true, laidKinds := [.data, .data, .data], laidTests := true, laidLooks := .later }
def SegmentJoinedUptoCardSaid : Prop := Claim7.holds Tryd.pinned (.plain (OpenSpec.upto segmentJoinedSpec)) segmentJoinedUptoCard

/-- THE SECOND FORM's CARD OF 'waypointlaw18.SegmentText'. -/
def segmentTextUptoCard : Claim7 := { stood := { row := segmentTextUptoRow, standIns := [], harness := (true, "73dbda517fe056e7f14a23478bb8796f733383107d0ce471ecc812eff5fdcc8a"), looks := true }, kinds := [], alts := [], laidByText := true, laidKinds := [.data, .data, .data, .sentinel, .sentinel], laidTests := true, laidLooks := .later }
def SegmentTextUptoCardSaid : Prop := Claim7.holds Tryd.pinned (.plain (OpenSpec.upto segmentTextSpec)) segmentTextUptoCard

/-- THE SECOND FORM's CARD OF 'waypointlaw18.SegmentParse'. -/
def segmentParseUptoCard : Claim7 := { stood := { row := segmentParseUptoRow, standIns := [], harness := (true, "73dbda517fe056e7f14a23478bb8796f733383107d0ce471ecc812eff5fdcc8a"), looks := true }, kinds := [], alts := [], laidByText := true, laidKinds := [.data, .data, .data, .sentinel, .sentinel], laidTests := true, laidLooks := .later }
def SegmentParseUptoCardSaid : Prop := Claim7.holds Tryd.pinned (.plain (OpenSpec.upto segmentParseSpec)) segmentParseUptoCard

/-- THE SECOND FORM's CARD OF 'waypointlaw18.SegmentList'. -/
def segmentListUptoCard : Claim7 := { stood := { row := segmentListUptoRow, standIns := [], harness := (true, "73dbda517fe056e7f14a23478bb8796f733383107d0ce471ecc812eff5fdcc8a"), looks := true }, kinds := [], alts := [], laidByText := true, laidKinds := [.data, .data, .data, .data, .sentinel, .sentinel, .pinned], laidTests := true, laidLooks := .later }
def SegmentListUptoCardSaid : Prop := Claim7.holds Tryd.pinned (.plain (OpenSpec.upto segmentListSpec)) segmentListUptoCard

/-- THE SECOND FORM's CARD OF 'waypointlaw18.SegmentParseList'. -/
def segmentParseListUptoCard : Claim7 := { stood := { row := segmentParseListUptoRow, standIns := [], harness := (true, "73dbda517fe056e7f14a23478bb8796f733383107d0ce471ecc812eff5fdcc8a"), looks := true }, kinds := [], alts := [], laidByText := true, laidKinds := [.data, .data, .data, .data, .sentinel, .sentinel, .pinned], laidTests := true, laidLooks := .later }
def SegmentParseListUptoCardSaid : Prop := Claim7.holds Tryd.pinned (.plain (OpenSpec.upto segmentParseListSpec)) segmentParseListUptoCard
end Rows
end Go.Proofs.YtlfjajdpdnnbnaaDoor
