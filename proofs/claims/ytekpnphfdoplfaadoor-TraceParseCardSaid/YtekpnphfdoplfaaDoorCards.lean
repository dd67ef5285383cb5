/-
  DERIVED. GIVEN WITH THE SEED: THE CARDS: each row of YtekpnphfdoplfaaDoorRows.lean that lists a variable, with what it lists TIED to the program's text (the seventh form; the later family's looks); each row that meets fmt, with fmt's text TOLD by the authors' own Lean function (tested against real Go, not proved from fmt's source: count such statements apart). THE CARD IS WHAT COUNTS. Prove the row's statement (the work); the ties are given (YtekpnphfdoplfaaDoorTie.lean); close each card by the builder's one call (the guide's Derived/Test/ToyasCard.lean, 'card_holds'). Laid BY PROGRAM, IN A SANDBOX (cutbox-door.mjs). By AI agents, Wed Nov 11 2026. No macro, syntax, notation, axiom, sorry.
-/
import Derived.Test.YtekpnphfdoplfaaDoorRows
import GoSem.ClaimSeven
namespace Go.Proofs.YtekpnphfdoplfaaDoor
namespace Rows

/-- THE TIED CARD OF 'mailboatlaw51.TraceParse'. -/
def traceParseCard : Claim7 := { stood := { row := traceParseRow, standIns := [], harness := (true, "22e27320d8d9aceb26ed1a133aa56eef9f640033162a94e7b593b14136084719"), looks := true }, kinds := [], alts := [], laidByText := true, laidKinds := [.data, .data, .data, .sentinel, .sentinel, .listed, .data], laidTests := true, laidLooks := .later }
def TraceParseCardSaid : Prop := Claim7.holds Tryd.pinned (.plain (OpenSpec.ofChange traceParseSpec)) traceParseCard

/-- THE TIED CARD OF 'mailboatlaw51.TraceOf'. -/
def traceOfCard : Claim7 := { stood := { row := traceOfRow, standIns := [], harness := (true, "22e27320d8d9aceb26ed1a133aa56eef9f640033162a94e7b593b14136084719"), looks := true }, kinds := [], alts := [], laidByText := true, laidKinds := [.data, .data, .data, .sentinel, .sentinel, .listed, .data], laidTests := true, laidLooks := .later }
def TraceOfCardSaid : Prop := Claim7.holds Tryd.pinned (.plain (OpenSpec.ofChange traceOfSpec)) traceOfCard

/-- THE TIED CARD OF 'mailboatlaw51.TraceFollows'. -/
def traceFollowsCard : Claim7 := { stood := { row := traceFollowsRow, standIns := [], harness := (true, "22e27320d8d9aceb26ed1a133aa56eef9f640033162a94e7b593b14136084719"), looks := true }, kinds := [], alts := [], laidByText := true, laidKinds := [.data, .data, .data, .sentinel, .sentinel, .listed, .data], laidTests := true, laidLooks := .later }
def TraceFollowsCardSaid : Prop := Claim7.holds Tryd.pinned (.plain (OpenSpec.ofChange traceFollowsSpec)) traceFollowsCard

/-- THE TIED CARD OF 'mailboatlaw51.TracePrint'. -/
def tracePrintCard : Claim7 := { stood := { row := tracePrintRow, standIns := [], harness := (true, "22e27320d8d9aceb26ed1a133aa56eef9f640033162a94e7b593b14136084719"), looks := true }, kinds := [], alts := [], laidByText := true, laidKinds := [.data, .data, .data, .sentinel, .sentinel, .listed, .data], laidTests := true, laidLooks := .later }
def TracePrintCardSaid : Prop := Claim7.holds Tryd.pinned (.plain (OpenSpec.ofChange tracePrintSpec)) tracePrintCard

/-- THE TIED CARD OF 'mailboatlaw51.TraceRoundTrip'. -/
def traceRoundTripCard : Claim7 := { stood := { row := traceRoundTripRow, standIns := [], harness := (true, "22e27320d8d9aceb26ed1a133aa56eef9f640033162a94e7b593b14136084719"), looks := true }, kinds := [], alts := [], laidByText := true, laidKinds := [.data, .data, .data, .sentinel, .sentinel, .listed, .data], laidTests := true, laidLooks := .later }
def TraceRoundTripCardSaid : Prop := Claim7.holds Tryd.pinned (.plain (OpenSpec.ofChange traceRoundTripSpec)) traceRoundTripCard

/-- THE TIED CARD OF 'mailboatlaw51.TraceErrors'. -/
def traceErrorsCard : Claim7 := { stood := { row := traceErrorsRow, standIns := [], harness := (true, "22e27320d8d9aceb26ed1a133aa56eef9f640033162a94e7b593b14136084719"), looks := true }, kinds := [], alts := [], laidByText := true, laidKinds := [.data, .data, .data, .sentinel, .sentinel, .listed, .data], laidTests := true, laidLooks := .later }
def TraceErrorsCardSaid : Prop := Claim7.holds Tryd.pinned (.plain (OpenSpec.ofChange traceErrorsSpec)) traceErrorsCard

/-- THE TIED CARD OF 'mailboatlaw51.TraceLines'. -/
def traceLinesCard : Claim7 := { stood := { row := traceLinesRow, standIns := [], harness := (true, "22e27320d8d9aceb26ed1a133aa56eef9f640033162a94e7b593b14136084719"), looks := true }, kinds := [], alts := [], laidByText := true, laidKinds := [.data, .data, .data, .sentinel, .sentinel, .listed, .data], laidTests := true, laidLooks := .later }
def TraceLinesCardSaid : Prop := Claim7.holds Tryd.pinned (.plain (OpenSpec.ofChange traceLinesSpec)) traceLinesCard

/-- THE SECOND FORM's CARD OF 'mailboatlaw51.TraceParse'. -/
def traceParseUptoCard : Claim7 := { stood := { row := traceParseUptoRow, standIns := [], harness := (true, "22e27320d8d9aceb26ed1a133aa56eef9f640033162a94e7b593b14136084719"), looks := true }, kinds := [], alts := [], laidByText := true, laidKinds := [.data, .data, .data, .sentinel, .sentinel, .listed, .data], laidTests := true, laidLooks := .later }
def TraceParseUptoCardSaid : Prop := Claim7.holds Tryd.pinned (.plain (OpenSpec.upto traceParseSpec)) traceParseUptoCard

/-- THE SECOND FORM's CARD OF 'mailboatlaw51.TraceOf'. -/
def traceOfUptoCard : Claim7 := { stood := { row := traceOfUptoRow, standIns := [], harness := (true, "22e27320d8d9aceb26ed1a133aa56eef9f640033162a94e7b593b14136084719"), looks := true }, kinds := [], alts := [], laidByText := true, laidKinds := [.data, .data, .data, .sentinel, .sentinel, .listed, .data], laidTests := true, laidLooks := .later }
def TraceOfUptoCardSaid : Prop := Claim7.holds Tryd.pinned (.plain (OpenSpec.upto traceOfSpec)) traceOfUptoCard

/-- THE SECOND FORM's CARD OF 'mailboatlaw51.TraceFollows'. -/
def traceFollowsUptoCard : Claim7 := { stood := { row := traceFollowsUptoRow, standIns := [], harness := (true, "22e27320d8d9aceb26ed1a133aa56eef9f640033162a94e7b593b14136084719"), looks := true }, kinds := [], alts := [], laidByText := true, laidKinds := [.data, .data, .data, .sentinel, .sentinel, .listed, .data], laidTests := true, laidLooks := .later }
def TraceFollowsUptoCardSaid : Prop := Claim7.holds Tryd.pinned (.plain (OpenSpec.upto traceFollowsSpec)) traceFollowsUptoCard

/-- THE SECOND FORM's CARD OF 'mailboatlaw51.TracePrint'. -/
def tracePrintUptoCard : Claim7 := { stood := { row := tracePrintUptoRow, standIns := [], harness := (true, "22e27320d8d9aceb26ed1a133aa56eef9f640033162a94e7b593b14136084719"), looks := true }, kinds := [], alts := [], laidByText := true, laidKinds := [.data, .data, .data, .sentinel, .sentinel, .listed, .data], laidTests := true, laidLooks := .later }
def TracePrintUptoCardSaid : Prop := Claim7.holds Tryd.pinned (.plain (OpenSpec.upto tracePrintSpec)) tracePrintUptoCard

/-- THE SECOND FORM's CARD OF 'mailboatlaw51.TraceRoundTrip'. -/
def traceRoundTripUptoCard : Claim7 := { stood := { row := traceRoundTripUptoRow, standIns := [], harness := (true, "22e27320d8d9aceb26ed1a133aa56eef9f640033162a94e7b593b14136084719"), looks := true }, kinds := [], alts := [], laidByText := true, laidKinds := [.data, .data, .data, .sentinel, .sentinel, .listed, .data], laidTests := true, laidLooks := .later }
def TraceRoundTripUptoCardSaid : Prop := Claim7.holds Tryd.pinned (.plain (OpenSpec.upto traceRoundTripSpec)) traceRoundTripUptoCard

/-- THE SECOND FORM's CARD OF 'mailboatlaw51.TraceErrors'. -/
def traceErrorsUptoCard : Claim7 := { stood := { row := traceErrorsUptoRow, standIns := [], harness := (true, "22e27320d8d9aceb26ed1a133aa56eef9f640033162a94e7b593b14136084719"), looks := true }, kinds := [], alts := [], laidByText := true, laidKinds := [.data, .data, .data, .sentinel, .sentinel, .listed, .data], laidTests := true, laidLooks := .later }
def TraceErrorsUptoCardSaid : Prop := Claim7.holds Tryd.pinned (.plain (OpenSpec.upto traceErrorsSpec)) traceErrorsUptoCard

/-- THE SECOND FORM's CARD OF 'mailboatlaw51.TraceLines'. -/
def traceLinesUptoCard : Claim7 := { stood := { row := traceLinesUptoRow, standIns := [], harness := (true, "22e27320d8d9aceb26ed1a133aa56eef9f640033162a94e7b593b14136084719"), looks := true }, kinds := [], alts := [], laidByText := true, laidKinds := [.data, .data, .data, .sentinel, .sentinel, .listed, .data], laidTests := true, laidLooks := .later }
def TraceLinesUptoCardSaid : Prop := Claim7.holds Tryd.pinned (.plain (OpenSpec.upto traceLinesSpec)) traceLinesUptoCard
end Rows
end Go.Proofs.YtekpnphfdoplfaaDoor
