/-
  DERIVED. GIVEN WITH THE SEED: THE CARDS: each row of YtbhmmffompapdaaDoorRows.lean that lists a variable, with what it lists TIED to the program's text (the seventh form; the later family's looks); each row that meets fmt, with fmt's text TOLD by the authors' own Lean function (tested against real Go, not proved from fmt's source: count such statements apart). THE CARD IS WHAT COUNTS. Prove the row's statement (the work); the ties are given (YtbhmmffompapdaaDoorTie.lean); close each card by the builder's one call (the guide's Derived/Test/ToyasCard.lean, 'card_holds'). Laid BY PROGRAM, IN A SANDBOX (cutbox-door.mjs). By AI agents, Wed Nov 11 2026. No macro, syntax, notation, axiom, sorry.
-/
import Derived.Test.YtbhmmffompapdaaDoorRows
import GoSem.ClaimSeven
namespace Go.Proofs.YtbhmmffompapdaaDoor
namespace Rows

/-- THE TIED CARD OF 'mailboatlaw11.EndpointDifferent'. -/
def endpointDifferentCard : Claim7 := { stood := { row := endpointDifferentRow, standIns := [], harness := (true, "08ffa27b05443e2cd95604f2c64995a0cbe196dada2bb47c271c9223045ebce3"), looks := true }, kinds := [], alts := [], laidByText := true, laidKinds := [.data, .data, .data], laidTests := true, laidLooks := .later }
def EndpointDifferentCardSaid : Prop := Claim7.holds Tryd.pinned (.plain (OpenSpec.ofChange endpointDifferentSpec)) endpointDifferentCard

/-- THE TIED CARD OF 'mailboatlaw11.EndpointOrder'. -/
def endpointOrderCard : Claim7 := { stood := { row := endpointOrderRow, standIns := [], harness := (true, "08ffa27b05443e2cd95604f2c64995a0cbe196dada2bb47c271c9223045ebce3"), looks := true }, kinds := [], alts := [], laidByText := true, laidKinds := [.data, .data, .data], laidTests := true, laidLooks := .later }
def EndpointOrderCardSaid : Prop := Claim7.holds Tryd.pinned (.plain (OpenSpec.ofChange endpointOrderSpec)) endpointOrderCard

/-- THE TIED CARD OF 'mailboatlaw11.EndpointBelongs'. -/
def endpointBelongsCard : Claim7 := { stood := { row := endpointBelongsRow, standIns := [], harness := (true, "08ffa27b05443e2cd95604f2c64995a0cbe196dada2bb47c271c9223045ebce3"), looks := true }, kinds := [], alts := [], laidByText := true, laidKinds := [.data, .data, .data], laidTests := true, laidLooks := .later }
def EndpointBelongsCardSaid : Prop := Claim7.holds Tryd.pinned (.plain (OpenSpec.ofChange endpointBelongsSpec)) endpointBelongsCard

/-- THE TIED CARD OF 'mailboatlaw11.EndpointMembers'. -/
def endpointMembersCard : Claim7 := { stood := { row := endpointMembersRow, standIns := [], harness := (true, "08ffa27b05443e2cd95604f2c64995a0cbe196dada2bb47c271c9223045ebce3"), looks := true }, kinds := [], alts := [], laidByText := true, laidKinds := [.data, .data, .data], laidTests := true, laidLooks := .later }
def EndpointMembersCardSaid : Prop := Claim7.holds Tryd.pinned (.plain (OpenSpec.ofChange endpointMembersSpec)) endpointMembersCard

/-- THE TIED CARD OF 'mailboatlaw11.EndpointMore'. -/
def endpointMoreCard : Claim7 := { stood := { row := endpointMoreRow, standIns := [], harness := (true, "08ffa27b05443e2cd95604f2c64995a0cbe196dada2bb47c271c9223045ebce3"), looks := true }, kinds := [], alts := [], laidByText := true, laidKinds := [.data, .data, .data], laidTests := true, laidLooks := .later }
def EndpointMoreCardSaid : Prop := Claim7.holds Tryd.pinned (.plain (OpenSpec.ofChange endpointMoreSpec)) endpointMoreCard

/-- THE TIED CARD OF 'mailboatlaw11.EndpointTexts'. -/
def endpointTextsCard : Claim7 := { stood := { row := endpointTextsRow, standIns := [], harness := (true, "08ffa27b05443e2cd95604f2c64995a0cbe196dada2bb47c271c9223045ebce3"), looks := true }, kinds := [], alts := [], laidByText := true, laidKinds := [.data, .data, .data, .sentinel, .sentinel], laidTests := true, laidLooks := .later }
def EndpointTextsCardSaid : Prop := Claim7.holds Tryd.pinned (.plain (OpenSpec.ofChange endpointTextsSpec)) endpointTextsCard

/-- THE TIED CARD OF 'mailboatlaw11.EndpointRoundTrip'. -/
def endpointRoundTripCard : Claim7 := { stood := { row := endpointRoundTripRow, standIns := [], harness := (true, "08ffa27b05443e2cd95604f2c64995a0cbe196dada2bb47c271c9223045ebce3"), looks := true }, kinds := [], alts := [], laidByText := true, laidKinds := [.data, .data, .data, .sentinel, .sentinel], laidTests := true, laidLooks := .later }
def EndpointRoundTripCardSaid : Prop := Claim7.holds Tryd.pinned (.plain (OpenSpec.ofChange endpointRoundTripSpec)) endpointRoundTripCard

/-- THE SECOND FORM's CARD OF 'mailboatlaw11.EndpointDifferent'. -/
def endpointDifferentUptoCard : Claim7 := { stood := { row := endpointDifferentUptoRow, standIns := [], harness := (true, "08ffa27b05443e2cd95604f2c64995a0cbe196dada2bb47c271c9223045ebce3"), looks := true }, kinds := [], alts := [], laidByText := true, laidKinds := [.data, .data, .data], laidTests := true, laidLooks := .later }
def EndpointDifferentUptoCardSaid : Prop := Claim7.holds Tryd.pinned (.plain (OpenSpec.upto endpointDifferentSpec)) endpointDifferentUptoCard

/-- THE SECOND FORM's CARD OF 'mailboatlaw11.EndpointOrder'. -/
def endpointOrderUptoCard : Claim7 := { stood := { row := endpointOrderUptoRow, standIns := [], harness := (true, "08ffa27b05443e2cd95604f2c64995a0cbe196dada2bb47c271c9223045ebce3"), looks := true }, kinds := [], alts := [], laidByText := true, laidKinds := [.data, .data, .data], laidTests := true, laidLooks := .later }
def EndpointOrderUptoCardSaid : Prop := Claim7.holds Tryd.pinned (.plain (OpenSpec.upto endpointOrderSpec)) endpointOrderUptoCard

/-- THE SECOND FORM's CARD OF 'mailboatlaw11.EndpointBelongs'. -/
def endpointBelongsUptoCard : Claim7 := { stood := { row := endpointBelongsUptoRow, standIns := [], harness := (true, "08ffa27b05443e2cd95604f2c64995a0cbe196dada2bb47c271c9223045ebce3"), looks := true }, kinds := [], alts := [], laidByText := true, laidKinds := [.data, .data, .data], laidTests := true, laidLooks := .later }
def EndpointBelongsUptoCardSaid : Prop := Claim7.holds Tryd.pinned (.plain (OpenSpec.upto endpointBelongsSpec)) endpointBelongsUptoCard

/-- THE SECOND FORM's CARD OF 'mailboatlaw11.EndpointMembers'. -/
def endpointMembersUptoCard : Claim7 := { stood := { row := endpointMembersUptoRow, standIns := [], harness := (true, "08ffa27b05443e2cd95604f2c64995a0cbe196dada2bb47c271c9223045ebce3"), looks := true }, kinds := [], alts := [], laidByText := true, laidKinds := [.data, .data, .data], laidTests := true, laidLooks := .later }
def EndpointMembersUptoCardSaid : Prop := Claim7.holds Tryd.pinned (.plain (OpenSpec.upto endpointMembersSpec)) endpointMembersUptoCard

/-- THE SECOND FORM's CARD OF 'mailboatlaw11.EndpointMore'. -/
def endpointMoreUptoCard : Claim7 := { stood := { row := endpointMoreUptoRow, standIns := [], harness := (true, "08ffa27b05443e2cd95604f2c64995a0cbe196dada2bb47c271c9223045ebce3"), looks := true }, kinds := [], alts := [], laidByText := true, laidKinds := [.data, .data, .data], laidTests := true, laidLooks := .later }
def EndpointMoreUptoCardSaid : Prop := Claim7.holds Tryd.pinned (.plain (OpenSpec.upto endpointMoreSpec)) endpointMoreUptoCard

/-- THE SECOND FORM's CARD OF 'mailboatlaw11.EndpointTexts'. -/
def endpointTextsUptoCard : Claim7 := { stood := { row := endpointTextsUptoRow, standIns := [], harness := (true, "08ffa27b05443e2cd95604f2c64995a0cbe196dada2bb47c271c9223045ebce3"), looks := true }, kinds := [], alts := [], laidByText := true, laidKinds := [.data, .data, .data, .sentinel, .sentinel], laidTests := true, laidLooks := .later }
def EndpointTextsUptoCardSaid : Prop := Claim7.holds Tryd.pinned (.plain (OpenSpec.upto endpointTextsSpec)) endpointTextsUptoCard

/-- THE SECOND FORM's CARD OF 'mailboatlaw11.EndpointRoundTrip'. -/
def endpointRoundTripUptoCard : Claim7 := { stood := { row := endpointRoundTripUptoRow, standIns := [], harness := (true, "08ffa27b05443e2cd95604f2c64995a0cbe196dada2bb47c271c9223045ebce3"), looks := true }, kinds := [], alts := [], laidByText := true, laidKinds := [.data, .data, .data, .sentinel, .sentinel], laidTests := true, laidLooks := .later }
def EndpointRoundTripUptoCardSaid : Prop := Claim7.holds Tryd.pinned (.plain (OpenSpec.upto endpointRoundTripSpec)) endpointRoundTripUptoCard
end Rows
end Go.Proofs.YtbhmmffompapdaaDoor
