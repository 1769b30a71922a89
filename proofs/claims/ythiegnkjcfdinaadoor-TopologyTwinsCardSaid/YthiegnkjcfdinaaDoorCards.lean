/-
  DERIVED. GIVEN WITH THE SEED: THE CARDS: each row of YthiegnkjcfdinaaDoorRows.lean that lists a variable, with what it lists TIED to the program's text (the seventh form; the later family's looks); each row that meets fmt, with fmt's text TOLD by the authors' own Lean function (tested against real Go, not proved from fmt's source: count such statements apart). THE CARD IS WHAT COUNTS. Prove the row's statement (the work); the ties are given (YthiegnkjcfdinaaDoorTie.lean); close each card by the builder's one call (the guide's Derived/Test/ToyasCard.lean, 'card_holds'). Laid BY PROGRAM, IN A SANDBOX (cutbox-door.mjs). By AI agents, Wed Nov 11 2026. No macro, syntax, notation, axiom, sorry.
-/
import Derived.Test.YthiegnkjcfdinaaDoorRows
import GoSem.ClaimSeven
namespace Go.Proofs.YthiegnkjcfdinaaDoor
namespace Rows

/-- THE TIED CARD OF 'waypointlaw09.TopologyPath'. -/
def topologyPathCard : Claim7 := { stood := { row := topologyPathRow, standIns := [], harness := (true, "673ed08b65a7698dd6897b05e024a5b3bb26f8bc444ff6c918baa480bb4009d4"), looks := false }, kinds := [], alts := [], laidByText := true, laidKinds := [.data, .data, .data], laidTests := true, laidLooks := .later }
def TopologyPathCardSaid : Prop := Claim7.holds Tryd.pinned (.plain (OpenSpec.ofChange topologyPathSpec)) topologyPathCard

/-- THE TIED CARD OF 'waypointlaw09.TopologyJoined'. -/
def topologyJoinedCard : Claim7 := { stood := { row := topologyJoinedRow, standIns := [], harness := (true, "673ed08b65a7698dd6897b05e024a5b3bb26f8bc444ff6c918baa480bb4009d4"), looks := false }, kinds := [], alts := [], laidByText := true, laidKinds := [.data, .data, .data], laidTests := true, laidLooks := .later }
def TopologyJoinedCardSaid : Prop := Claim7.holds Tryd.pinned (.plain (OpenSpec.ofChange topologyJoinedSpec)) topologyJoinedCard

/-- THE TIED CARD OF 'waypointlaw09.TopologyValid'. -/
def topologyValidCard : Claim7 := { stood := { row := topologyValidRow, standIns := [], harness := (true, "673ed08b65a7698dd6897b05e024a5b3bb26f8bc444ff6c918baa480bb4009d4"), looks := false }, kinds := [], alts := [], laidByText := true, laidKinds := [.data, .data, .data], laidTests := true, laidLooks := .later }
def TopologyValidCardSaid : Prop := Claim7.holds Tryd.pinned (.plain (OpenSpec.ofChange topologyValidSpec)) topologyValidCard

/-- THE TIED CARD OF 'waypointlaw09.TopologyTwins'. -/
def topologyTwinsCard : Claim7 := { stood := { row := topologyTwinsRow, standIns := [], harness := (true, "673ed08b65a7698dd6897b05e024a5b3bb26f8bc444ff6c918baa480bb4009d4"), looks := false }, kinds := [], alts := [], laidByText := true, laidKinds := [.data, .data, .data], laidTests := true, laidLooks := .later }
def TopologyTwinsCardSaid : Prop := Claim7.holds Tryd.pinned (.plain (OpenSpec.ofChange topologyTwinsSpec)) topologyTwinsCard

/-- THE TIED CARD OF 'waypointlaw09.TopologyArcs'. -/
def topologyArcsCard : Claim7 := { stood := { row := topologyArcsRow, standIns := [], harness := (true, "673ed08b65a7698dd6897b05e024a5b3bb26f8bc444ff6c918baa480bb4009d4"), looks := false }, kinds := [], alts := [], laidByText := true, laidKinds := [.data, .data, .data], laidTests := true, laidLooks := .later }
def TopologyArcsCardSaid : Prop := Claim7.holds Tryd.pinned (.plain (OpenSpec.ofChange topologyArcsSpec)) topologyArcsCard

/-- THE SECOND FORM's CARD OF 'waypointlaw09.TopologyPath'. -/
def topologyPathUptoCard : Claim7 := { stood := { row := topologyPathUptoRow, standIns := [], harness := (true, "673ed08b65a7698dd6897b05e024a5b3bb26f8bc444ff6c918baa480bb4009d4"), looks := false }, kinds := [], alts := [], laidByText := true, laidKinds := [.data, .data, .data], laidTests := true, laidLooks := .later }
def TopologyPathUptoCardSaid : Prop := Claim7.holds Tryd.pinned (.plain (OpenSpec.upto topologyPathSpec)) topologyPathUptoCard

/-- THE SECOND FORM's CARD OF 'waypointlaw09.TopologyJoined'. -/
def topologyJoinedUptoCard : Claim7 := { stood := { row := topologyJoinedUptoRow, standIns := [], harness := (true, "673ed08b65a7698dd6897b05e024a5b3bb26f8bc444ff6c918baa480bb4009d4"), looks := false }, kinds := [], alts := [], laidByText := true, laidKinds := [.data, .data, .data], laidTests := true, laidLooks := .later }
def TopologyJoinedUptoCardSaid : Prop := Claim7.holds Tryd.pinned (.plain (OpenSpec.upto topologyJoinedSpec)) topologyJoinedUptoCard

/-- THE SECOND FORM's CARD OF 'waypointlaw09.TopologyValid'. -/
def topologyValidUptoCard : Claim7 := { stood := { row := topologyValidUptoRow, standIns := [], harness := (true, "673ed08b65a7698dd6897b05e024a5b3bb26f8bc444ff6c918baa480bb4009d4"), looks := false }, kinds := [], alts := [], laidByText := true, laidKinds := [.data, .data, .data], laidTests := true, laidLooks := .later }
def TopologyValidUptoCardSaid : Prop := Claim7.holds Tryd.pinned (.plain (OpenSpec.upto topologyValidSpec)) topologyValidUptoCard

/-- THE SECOND FORM's CARD OF 'waypointlaw09.TopologyTwins'. -/
def topologyTwinsUptoCard : Claim7 := { stood := { row := topologyTwinsUptoRow, standIns := [], harness := (true, "673ed08b65a7698dd6897b05e024a5b3bb26f8bc444ff6c918baa480bb4009d4"), looks := false }, kinds := [], alts := [], laidByText := true, laidKinds := [.data, .data, .data], laidTests := true, laidLooks := .later }
def TopologyTwinsUptoCardSaid : Prop := Claim7.holds Tryd.pinned (.plain (OpenSpec.upto topologyTwinsSpec)) topologyTwinsUptoCard

/-- THE SECOND FORM's CARD OF 'waypointlaw09.TopologyArcs'. -/
def topologyArcsUptoCard : Claim7 := { stood := { row := topologyArcsUptoRow, standIns := [], harness := (true, "673ed08b65a7698dd6897b05e024a5b3bb26f8bc444ff6c918baa480bb4009d4"), looks := false }, kinds := [], alts := [], laidByText := true, laidKinds := [.data, .data, .data], laidTests := true, laidLooks := .later }
def TopologyArcsUptoCardSaid : Prop := Claim7.holds Tryd.pinned (.plain (OpenSpec.upto topologyArcsSpec)) topologyArcsUptoCard
end Rows
end Go.Proofs.YthiegnkjcfdinaaDoor
