/-
  DERIVED. GIVEN WITH THE SEED: THE CARDS: each row of YtmcgddlblhinlaaGreatDoorRows.lean that lists a variable, with what it lists TIED to the program's text (the seventh form; the later family's looks); each row that meets fmt, with fmt's text TOLD by the authors' own Lean function (tested against real Go, not proved from fmt's source: count such statements apart). THE CARD IS WHAT COUNTS. Prove the row's statement (the work); the ties are given (YtmcgddlblhinlaaGreatDoorTie.lean); close each card by the builder's one call (the guide's Derived/Test/ToyasCard.lean, 'card_holds'). Laid BY PROGRAM, IN A SANDBOX (cutbox-door.mjs). By AI agents, Wed Nov 11 2026. No macro, syntax, notation, axiom, sorry.
-/
import Derived.Test.YtmcgddlblhinlaaGreatDoorRows
import GoSem.ClaimSeven
namespace Go.Proofs.YtmcgddlblhinlaaGreatDoor
namespace Rows

/-- THE TIED CARD OF 'mailboatlaw58.LangQuotes'. -/
def langQuotesCard : Claim7 := { stood := { row := langQuotesRow, standIns := [], harness := (true, "021525513f9a5892a8dc3b3041d3a42736e99f401c75f6f5a43cbbd7ddb09986"), looks := true }, kinds := [], alts := [], laidByText := true, laidKinds := [.data, .data, .data, .data, .sentinel, .sentinel, .pinned], laidTests := true, laidLooks := .later }
def LangQuotesCardSaid : Prop := Claim7.holds Tryz.pinned (.plain (OpenSpec.ofChange langQuotesSpec)) langQuotesCard

/-- THE TIED CARD OF 'mailboatlaw58.LangRoundTrip'. -/
def langRoundTripCard : Claim7 := { stood := { row := langRoundTripRow, standIns := [], harness := (true, "021525513f9a5892a8dc3b3041d3a42736e99f401c75f6f5a43cbbd7ddb09986"), looks := true }, kinds := [], alts := [], laidByText := true, laidKinds := [.data, .data, .data, .data, .sentinel, .sentinel, .pinned], laidTests := true, laidLooks := .later }
def LangRoundTripCardSaid : Prop := Claim7.holds Tryz.pinned (.plain (OpenSpec.ofChange langRoundTripSpec)) langRoundTripCard

/-- THE TIED CARD OF 'mailboatlaw58.LangQuoting'. -/
def langQuotingCard : Claim7 := { stood := { row := langQuotingRow, standIns := [], harness := (true, "021525513f9a5892a8dc3b3041d3a42736e99f401c75f6f5a43cbbd7ddb09986"), looks := true }, kinds := [], alts := [], laidByText := true, laidKinds := [.data, .data, .data, .data, .sentinel, .sentinel, .pinned], laidTests := true, laidLooks := .later }
def LangQuotingCardSaid : Prop := Claim7.holds Tryz.pinned (.plain (OpenSpec.ofChange langQuotingSpec)) langQuotingCard

/-- THE TIED CARD OF 'mailboatlaw58.LangLines'. -/
def langLinesCard : Claim7 := { stood := { row := langLinesRow, standIns := [], harness := (true, "021525513f9a5892a8dc3b3041d3a42736e99f401c75f6f5a43cbbd7ddb09986"), looks := true }, kinds := [], alts := [], laidByText := true, laidKinds := [.data, .data, .data, .data, .sentinel, .sentinel, .pinned], laidTests := true, laidLooks := .later }
def LangLinesCardSaid : Prop := Claim7.holds Tryz.pinned (.plain (OpenSpec.ofChange langLinesSpec)) langLinesCard

/-- THE TIED CARD OF 'mailboatlaw58.LangPlaces'. -/
def langPlacesCard : Claim7 := { stood := { row := langPlacesRow, standIns := [], harness := (true, "021525513f9a5892a8dc3b3041d3a42736e99f401c75f6f5a43cbbd7ddb09986"), looks := true }, kinds := [], alts := [], laidByText := true, laidKinds := [.data, .data, .data, .data, .sentinel, .sentinel, .pinned], laidTests := true, laidLooks := .later }
def LangPlacesCardSaid : Prop := Claim7.holds Tryz.pinned (.plain (OpenSpec.ofChange langPlacesSpec)) langPlacesCard

/-- THE SECOND FORM's CARD OF 'mailboatlaw58.LangQuotes'. -/
def langQuotesUptoCard : Claim7 := { stood := { row := langQuotesUptoRow, standIns := [], harness := (true, "021525513f9a5892a8dc3b3041d3a42736e99f401c75f6f5a43cbbd7ddb09986"), looks := true }, kinds := [], alts := [], laidByText := true, laidKinds := [.data, .data, .data, .data, .sentinel, .sentinel, .pinned], laidTests := true, laidLooks := .later }
def LangQuotesUptoCardSaid : Prop := Claim7.holds Tryz.pinned (.plain (OpenSpec.upto langQuotesSpec)) langQuotesUptoCard

/-- THE SECOND FORM's CARD OF 'mailboatlaw58.LangRoundTrip'. -/
def langRoundTripUptoCard : Claim7 := { stood := { row := langRoundTripUptoRow, standIns := [], harness := (true, "021525513f9a5892a8dc3b3041d3a42736e99f401c75f6f5a43cbbd7ddb09986"), looks := true }, kinds := [], alts := [], laidByText := true, laidKinds := [.data, .data, .data, .data, .sentinel, .sentinel, .pinned], laidTests := true, laidLooks := .later }
def LangRoundTripUptoCardSaid : Prop := Claim7.holds Tryz.pinned (.plain (OpenSpec.upto langRoundTripSpec)) langRoundTripUptoCard

/-- THE SECOND FORM's CARD OF 'mailboatlaw58.LangQuoting'. -/
def langQuotingUptoCard : Claim7 := { stood := { row := langQuotingUptoRow, standIns := [], harness := (true, "021525513f9a5892a8dc3b3041d3a42736e99f401c75f6f5a43cbbd7ddb09986"), looks := true }, kinds := [], alts := [], laidByText := true, laidKinds := [.data, .data, .data, .data, .sentinel, .sentinel, .pinned], laidTests := true, laidLooks := .later }
def LangQuotingUptoCardSaid : Prop := Claim7.holds Tryz.pinned (.plain (OpenSpec.upto langQuotingSpec)) langQuotingUptoCard

/-- THE SECOND FORM's CARD OF 'mailboatlaw58.LangLines'. -/
def langLinesUptoCard : Claim7 := { stood := { row := langLinesUptoRow, standIns := [], harness := (true, "021525513f9a5892a8dc3b3041d3a42736e99f401c75f6f5a43cbbd7ddb09986"), looks := true }, kinds := [], alts := [], laidByText := true, laidKinds := [.data, .data, .data, .data, .sentinel, .sentinel, .pinned], laidTests := true, laidLooks := .later }
def LangLinesUptoCardSaid : Prop := Claim7.holds Tryz.pinned (.plain (OpenSpec.upto langLinesSpec)) langLinesUptoCard

/-- THE SECOND FORM's CARD OF 'mailboatlaw58.LangPlaces'. -/
def langPlacesUptoCard : Claim7 := { stood := { row := langPlacesUptoRow, standIns := [], harness := (true, "021525513f9a5892a8dc3b3041d3a42736e99f401c75f6f5a43cbbd7ddb09986"), looks := true }, kinds := [], alts := [], laidByText := true, laidKinds := [.data, .data, .data, .data, .sentinel, .sentinel, .pinned], laidTests := true, laidLooks := .later }
def LangPlacesUptoCardSaid : Prop := Claim7.holds Tryz.pinned (.plain (OpenSpec.upto langPlacesSpec)) langPlacesUptoCard
end Rows
end Go.Proofs.YtmcgddlblhinlaaGreatDoor
