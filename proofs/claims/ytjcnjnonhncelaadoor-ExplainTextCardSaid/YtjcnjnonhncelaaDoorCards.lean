/-
  DERIVED. GIVEN WITH THE SEED: THE CARDS: each row of YtjcnjnonhncelaaDoorRows.lean that lists a variable, with what it lists TIED to the program's text (the seventh form; the later family's looks); each row that meets fmt, with fmt's text TOLD by the authors' own Lean function (tested against real Go, not proved from fmt's source: count such statements apart). THE CARD IS WHAT COUNTS. Prove the row's statement (the work); the ties are given (YtjcnjnonhncelaaDoorTie.lean); close each card by the builder's one call (the guide's Derived/Test/ToyasCard.lean, 'card_holds'). Laid BY PROGRAM, IN A SANDBOX (cutbox-door.mjs). By AI agents, Wed Nov 11 2026. No macro, syntax, notation, axiom, sorry.
-/
import Derived.Test.YtjcnjnonhncelaaDoorRows
import GoSem.ClaimSeven
namespace Go.Proofs.YtjcnjnonhncelaaDoor
namespace Rows

/-- THE TIED CARD OF 'waypointlaw55.TraceValid'. -/
def traceValidCard : Claim7 := { stood := { row := traceValidRow, standIns := [], harness := (true, "a924ea38d2b8caea792a3175d5e44164c4b083e5a623037a2193ea81e53b23ac"), looks := true }, kinds := [], alts := [], laidByText := true, laidKinds := [.data, .data, .data, .data, .sentinel, .sentinel, .pinned], laidTests := true, laidLooks := .later }
def TraceValidCardSaid : Prop := Claim7.holds Tryd.pinned (.plain (OpenSpec.ofChange traceValidSpec)) traceValidCard

/-- THE TIED CARD OF 'waypointlaw55.TraceParses'. -/
def traceParsesCard : Claim7 := { stood := { row := traceParsesRow, standIns := [], harness := (true, "a924ea38d2b8caea792a3175d5e44164c4b083e5a623037a2193ea81e53b23ac"), looks := true }, kinds := [], alts := [], laidByText := true, laidKinds := [.data, .data, .data, .data, .sentinel, .sentinel, .pinned], laidTests := true, laidLooks := .later }
def TraceParsesCardSaid : Prop := Claim7.holds Tryd.pinned (.plain (OpenSpec.ofChange traceParsesSpec)) traceParsesCard

/-- THE TIED CARD OF 'waypointlaw55.TraceRoundTrip'. -/
def traceRoundTripCard : Claim7 := { stood := { row := traceRoundTripRow, standIns := [], harness := (true, "a924ea38d2b8caea792a3175d5e44164c4b083e5a623037a2193ea81e53b23ac"), looks := true }, kinds := [], alts := [], laidByText := true, laidKinds := [.data, .data, .data, .data, .sentinel, .sentinel, .pinned], laidTests := true, laidLooks := .later }
def TraceRoundTripCardSaid : Prop := Claim7.holds Tryd.pinned (.plain (OpenSpec.ofChange traceRoundTripSpec)) traceRoundTripCard

/-- THE TIED CARD OF 'waypointlaw55.TraceParts'. -/
def tracePartsCard : Claim7 := { stood := { row := tracePartsRow, standIns := [], harness := (true, "a924ea38d2b8caea792a3175d5e44164c4b083e5a623037a2193ea81e53b23ac"), looks := true }, kinds := [], alts := [], laidByText := true, laidKinds := [.data, .data, .data, .data, .sentinel, .sentinel, .pinned], laidTests := true, laidLooks := .later }
def TracePartsCardSaid : Prop := Claim7.holds Tryd.pinned (.plain (OpenSpec.ofChange tracePartsSpec)) tracePartsCard

/-- THE TIED CARD OF 'waypointlaw55.TraceSelects'. -/
def traceSelectsCard : Claim7 := { stood := { row := traceSelectsRow, standIns := [], harness := (true, "a924ea38d2b8caea792a3175d5e44164c4b083e5a623037a2193ea81e53b23ac"), looks := true }, kinds := [], alts := [], laidByText := true, laidKinds := [.data, .data, .data, .data, .sentinel, .sentinel, .pinned], laidTests := true, laidLooks := .later }
def TraceSelectsCardSaid : Prop := Claim7.holds Tryd.pinned (.plain (OpenSpec.ofChange traceSelectsSpec)) traceSelectsCard

/-- THE TIED CARD OF 'waypointlaw57.ExplainText'. -/
def explainTextCard : Claim7 := { stood := { row := explainTextRow, standIns := [], harness := (true, "a924ea38d2b8caea792a3175d5e44164c4b083e5a623037a2193ea81e53b23ac"), looks := true }, kinds := [], alts := [], laidByText := true, laidKinds := [.data, .data, .data], laidTests := true, laidLooks := .later }
def ExplainTextCardSaid : Prop := Claim7.holds Tryd.pinned (.plain (OpenSpec.ofChange explainTextSpec)) explainTextCard

/-- THE SECOND FORM's CARD OF 'waypointlaw55.TraceValid'. -/
def traceValidUptoCard : Claim7 := { stood := { row := traceValidUptoRow, standIns := [], harness := (true, "a924ea38d2b8caea792a3175d5e44164c4b083e5a623037a2193ea81e53b23ac"), looks := true }, kinds := [], alts := [], laidByText := true, laidKinds := [.data, .data, .data, .data, .sentinel, .sentinel, .pinned], laidTests := true, laidLooks := .later }
def TraceValidUptoCardSaid : Prop := Claim7.holds Tryd.pinned (.plain (OpenSpec.upto traceValidSpec)) traceValidUptoCard

/-- THE SECOND FORM's CARD OF 'waypointlaw55.TraceParses'. -/
def traceParsesUptoCard : Claim7 := { stood := { row := traceParsesUptoRow, standIns := [], harness := (true, "a924ea38d2b8caea792a3175d5e44164c4b083e5a623037a2193ea81e53b23ac"), looks := true }, kinds := [], alts := [], laidByText := true, laidKinds := [.data, .data, .data, .data, .sentinel, .sentinel, .pinned], laidTests := true, laidLooks := .later }
def TraceParsesUptoCardSaid : Prop := Claim7.holds Tryd.pinned (.plain (OpenSpec.upto traceParsesSpec)) traceParsesUptoCard

/-- THE SECOND FORM's CARD OF 'waypointlaw55.TraceRoundTrip'. -/
def traceRoundTripUptoCard : Claim7 := { stood := { row := traceRoundTripUptoRow, standIns := [], harness := (true, "a924ea38d2b8caea792a3175d5e44164c4b083e5a623037a2193ea81e53b23ac"), looks := true }, kinds := [], alts := [], laidByText := true, laidKinds := [.data, .data, .data, .data, .sentinel, .sentinel, .pinned], laidTests := true, laidLooks := .later }
def TraceRoundTripUptoCardSaid : Prop := Claim7.holds Tryd.pinned (.plain (OpenSpec.upto traceRoundTripSpec)) traceRoundTripUptoCard

/-- THE SECOND FORM's CARD OF 'waypointlaw55.TraceParts'. -/
def tracePartsUptoCard : Claim7 := { stood := { row := tracePartsUptoRow, standIns := [], harness := (true, "a924ea38d2b8caea792a3175d5e44164c4b083e5a623037a2193ea81e53b23ac"), looks := true }, kinds := [], alts := [], laidByText := true, laidKinds := [.data, .data, .data, .data, .sentinel, .sentinel, .pinned], laidTests := true, laidLooks := .later }
def TracePartsUptoCardSaid : Prop := Claim7.holds Tryd.pinned (.plain (OpenSpec.upto tracePartsSpec)) tracePartsUptoCard

/-- THE SECOND FORM's CARD OF 'waypointlaw55.TraceSelects'. -/
def traceSelectsUptoCard : Claim7 := { stood := { row := traceSelectsUptoRow, standIns := [], harness := (true, "a924ea38d2b8caea792a3175d5e44164c4b083e5a623037a2193ea81e53b23ac"), looks := true }, kinds := [], alts := [], laidByText := true, laidKinds := [.data, .data, .data, .data, .sentinel, .sentinel, .pinned], laidTests := true, laidLooks := .later }
def TraceSelectsUptoCardSaid : Prop := Claim7.holds Tryd.pinned (.plain (OpenSpec.upto traceSelectsSpec)) traceSelectsUptoCard

/-- THE SECOND FORM's CARD OF 'waypointlaw57.ExplainText'. -/
def explainTextUptoCard : Claim7 := { stood := { row := explainTextUptoRow, standIns := [], harness := (true, "a924ea38d2b8caea792a3175d5e44164c4b083e5a623037a2193ea81e53b23ac"), looks := true }, kinds := [], alts := [], laidByText := true, laidKinds := [.data, .data, .data], laidTests := true, laidLooks := .later }
def ExplainTextUptoCardSaid : Prop := Claim7.holds Tryd.pinned (.plain (OpenSpec.upto explainTextSpec)) explainTextUptoCard
end Rows
end Go.Proofs.YtjcnjnonhncelaaDoor
