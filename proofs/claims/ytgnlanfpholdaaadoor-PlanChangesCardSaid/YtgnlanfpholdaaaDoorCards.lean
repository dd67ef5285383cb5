/-
  DERIVED. GIVEN WITH THE SEED: THE CARDS: each row of YtgnlanfpholdaaaDoorRows.lean that lists a variable, with what it lists TIED to the program's text (the seventh form; the later family's looks); each row that meets fmt, with fmt's text TOLD by the authors' own Lean function (tested against real Go, not proved from fmt's source: count such statements apart). THE CARD IS WHAT COUNTS. Prove the row's statement (the work); the ties are given (YtgnlanfpholdaaaDoorTie.lean); close each card by the builder's one call (the guide's Derived/Test/ToyasCard.lean, 'card_holds'). Laid BY PROGRAM, IN A SANDBOX (cutbox-door.mjs). By AI agents, Wed Nov 11 2026. No macro, syntax, notation, axiom, sorry.
-/
import Derived.Test.YtgnlanfpholdaaaDoorRows
import GoSem.ClaimSeven
namespace Go.Proofs.YtgnlanfpholdaaaDoor
namespace Rows

/-- THE TIED CARD OF 'mailboatlaw22.PlanHorizon'. -/
def planHorizonCard : Claim7 := { stood := { row := planHorizonRow, standIns := [], harness := (true, "ea3f7ff824fad8469cfafeae6d707d1acddd30bd4a1d5bdc74aa52b324d71a1b"), looks := true }, kinds := [], alts := [], laidByText := true, laidKinds := [.data, .data, .data, .data, .sentinel, .sentinel, .pinned], laidTests := true, laidLooks := .later }
def PlanHorizonCardSaid : Prop := Claim7.holds Tryd.pinned (.plain (OpenSpec.ofChange planHorizonSpec)) planHorizonCard

/-- THE TIED CARD OF 'mailboatlaw22.PlanSelections'. -/
def planSelectionsCard : Claim7 := { stood := { row := planSelectionsRow, standIns := [], harness := (true, "ea3f7ff824fad8469cfafeae6d707d1acddd30bd4a1d5bdc74aa52b324d71a1b"), looks := true }, kinds := [], alts := [], laidByText := true, laidKinds := [.data, .data, .data, .data, .sentinel, .sentinel, .pinned], laidTests := true, laidLooks := .later }
def PlanSelectionsCardSaid : Prop := Claim7.holds Tryd.pinned (.plain (OpenSpec.ofChange planSelectionsSpec)) planSelectionsCard

/-- THE TIED CARD OF 'mailboatlaw22.PlanSelects'. -/
def planSelectsCard : Claim7 := { stood := { row := planSelectsRow, standIns := [], harness := (true, "ea3f7ff824fad8469cfafeae6d707d1acddd30bd4a1d5bdc74aa52b324d71a1b"), looks := true }, kinds := [], alts := [], laidByText := true, laidKinds := [.data, .data, .data, .data, .sentinel, .sentinel, .pinned], laidTests := true, laidLooks := .later }
def PlanSelectsCardSaid : Prop := Claim7.holds Tryd.pinned (.plain (OpenSpec.ofChange planSelectsSpec)) planSelectsCard

/-- THE TIED CARD OF 'mailboatlaw22.PlanDisjoint'. -/
def planDisjointCard : Claim7 := { stood := { row := planDisjointRow, standIns := [], harness := (true, "ea3f7ff824fad8469cfafeae6d707d1acddd30bd4a1d5bdc74aa52b324d71a1b"), looks := true }, kinds := [], alts := [], laidByText := true, laidKinds := [.data, .data, .data, .data, .sentinel, .sentinel, .pinned], laidTests := true, laidLooks := .later }
def PlanDisjointCardSaid : Prop := Claim7.holds Tryd.pinned (.plain (OpenSpec.ofChange planDisjointSpec)) planDisjointCard

/-- THE TIED CARD OF 'mailboatlaw22.PlanTexts'. -/
def planTextsCard : Claim7 := { stood := { row := planTextsRow, standIns := [], harness := (true, "ea3f7ff824fad8469cfafeae6d707d1acddd30bd4a1d5bdc74aa52b324d71a1b"), looks := true }, kinds := [], alts := [], laidByText := true, laidKinds := [.data, .data, .data, .data, .sentinel, .sentinel, .pinned], laidTests := true, laidLooks := .later }
def PlanTextsCardSaid : Prop := Claim7.holds Tryd.pinned (.plain (OpenSpec.ofChange planTextsSpec)) planTextsCard

/-- THE TIED CARD OF 'mailboatlaw22.PlanRoundTrip'. -/
def planRoundTripCard : Claim7 := { stood := { row := planRoundTripRow, standIns := [], harness := (true, "ea3f7ff824fad8469cfafeae6d707d1acddd30bd4a1d5bdc74aa52b324d71a1b"), looks := true }, kinds := [], alts := [], laidByText := true, laidKinds := [.data, .data, .data, .data, .sentinel, .sentinel, .pinned], laidTests := true, laidLooks := .later }
def PlanRoundTripCardSaid : Prop := Claim7.holds Tryd.pinned (.plain (OpenSpec.ofChange planRoundTripSpec)) planRoundTripCard

/-- THE TIED CARD OF 'mailboatlaw22.PlanChanges'. -/
def planChangesCard : Claim7 := { stood := { row := planChangesRow, standIns := [], harness := (true, "ea3f7ff824fad8469cfafeae6d707d1acddd30bd4a1d5bdc74aa52b324d71a1b"), looks := true }, kinds := [], alts := [], laidByText := true, laidKinds := [.data, .data, .data, .data, .sentinel, .sentinel, .pinned], laidTests := true, laidLooks := .later }
def PlanChangesCardSaid : Prop := Claim7.holds Tryd.pinned (.plain (OpenSpec.ofChange planChangesSpec)) planChangesCard

/-- THE TIED CARD OF 'mailboatlaw22.PlanAdds'. -/
def planAddsCard : Claim7 := { stood := { row := planAddsRow, standIns := [], harness := (true, "ea3f7ff824fad8469cfafeae6d707d1acddd30bd4a1d5bdc74aa52b324d71a1b"), looks := true }, kinds := [], alts := [], laidByText := true, laidKinds := [.data, .data, .data, .data, .sentinel, .sentinel, .pinned], laidTests := true, laidLooks := .later }
def PlanAddsCardSaid : Prop := Claim7.holds Tryd.pinned (.plain (OpenSpec.ofChange planAddsSpec)) planAddsCard

/-- THE SECOND FORM's CARD OF 'mailboatlaw22.PlanHorizon'. -/
def planHorizonUptoCard : Claim7 := { stood := { row := planHorizonUptoRow, standIns := [], harness := (true, "ea3f7ff824fad8469cfafeae6d707d1acddd30bd4a1d5bdc74aa52b324d71a1b"), looks := true }, kinds := [], alts := [], laidByText := true, laidKinds := [.data, .data, .data, .data, .sentinel, .sentinel, .pinned], laidTests := true, laidLooks := .later }
def PlanHorizonUptoCardSaid : Prop := Claim7.holds Tryd.pinned (.plain (OpenSpec.upto planHorizonSpec)) planHorizonUptoCard

/-- THE SECOND FORM's CARD OF 'mailboatlaw22.PlanSelections'. -/
def planSelectionsUptoCard : Claim7 := { stood := { row := planSelectionsUptoRow, standIns := [], harness := (true, "ea3f7ff824fad8469cfafeae6d707d1acddd30bd4a1d5bdc74aa52b324d71a1b"), looks := true }, kinds := [], alts := [], laidByText := true, laidKinds := [.data, .data, .data, .data, .sentinel, .sentinel, .pinned], laidTests := true, laidLooks := .later }
def PlanSelectionsUptoCardSaid : Prop := Claim7.holds Tryd.pinned (.plain (OpenSpec.upto planSelectionsSpec)) planSelectionsUptoCard

/-- THE SECOND FORM's CARD OF 'mailboatlaw22.PlanSelects'. -/
def planSelectsUptoCard : Claim7 := { stood := { row := planSelectsUptoRow, standIns := [], harness := (true, "ea3f7ff824fad8469cfafeae6d707d1acddd30bd4a1d5bdc74aa52b324d71a1b"), looks := true }, kinds := [], alts := [], laidByText := true, laidKinds := [.data, .data, .data, .data, .sentinel, .sentinel, .pinned], laidTests := true, laidLooks := .later }
def PlanSelectsUptoCardSaid : Prop := Claim7.holds Tryd.pinned (.plain (OpenSpec.upto planSelectsSpec)) planSelectsUptoCard

/-- THE SECOND FORM's CARD OF 'mailboatlaw22.PlanDisjoint'. -/
def planDisjointUptoCard : Claim7 := { stood := { row := planDisjointUptoRow, standIns := [], harness := (true, "ea3f7ff824fad8469cfafeae6d707d1acddd30bd4a1d5bdc74aa52b324d71a1b"), looks := true }, kinds := [], alts := [], laidByText := true, laidKinds := [.data, .data, .data, .data, .sentinel, .sentinel, .pinned], laidTests := true, laidLooks := .later }
def PlanDisjointUptoCardSaid : Prop := Claim7.holds Tryd.pinned (.plain (OpenSpec.upto planDisjointSpec)) planDisjointUptoCard

/-- THE SECOND FORM's CARD OF 'mailboatlaw22.PlanTexts'. -/
def planTextsUptoCard : Claim7 := { stood := { row := planTextsUptoRow, standIns := [], harness := (true, "ea3f7ff824fad8469cfafeae6d707d1acddd30bd4a1d5bdc74aa52b324d71a1b"), looks := true }, kinds := [], alts := [], laidByText := true, laidKinds := [.data, .data, .data, .data, .sentinel, .sentinel, .pinned], laidTests := true, laidLooks := .later }
def PlanTextsUptoCardSaid : Prop := Claim7.holds Tryd.pinned (.plain (OpenSpec.upto planTextsSpec)) planTextsUptoCard

/-- THE SECOND FORM's CARD OF 'mailboatlaw22.PlanRoundTrip'. -/
def planRoundTripUptoCard : Claim7 := { stood := { row := planRoundTripUptoRow, standIns := [], harness := (true, "ea3f7ff824fad8469cfafeae6d707d1acddd30bd4a1d5bdc74aa52b324d71a1b"), looks := true }, kinds := [], alts := [], laidByText := true, laidKinds := [.data, .data, .data, .data, .sentinel, .sentinel, .pinned], laidTests := true, laidLooks := .later }
def PlanRoundTripUptoCardSaid : Prop := Claim7.holds Tryd.pinned (.plain (OpenSpec.upto planRoundTripSpec)) planRoundTripUptoCard

/-- THE SECOND FORM's CARD OF 'mailboatlaw22.PlanChanges'. -/
def planChangesUptoCard : Claim7 := { stood := { row := planChangesUptoRow, standIns := [], harness := (true, "ea3f7ff824fad8469cfafeae6d707d1acddd30bd4a1d5bdc74aa52b324d71a1b"), looks := true }, kinds := [], alts := [], laidByText := true, laidKinds := [.data, .data, .data, .data, .sentinel, .sentinel, .pinned], laidTests := true, laidLooks := .later }
def PlanChangesUptoCardSaid : Prop := Claim7.holds Tryd.pinned (.plain (OpenSpec.upto planChangesSpec)) planChangesUptoCard

/-- THE SECOND FORM's CARD OF 'mailboatlaw22.PlanAdds'. -/
def planAddsUptoCard : Claim7 := { stood := { row := planAddsUptoRow, standIns := [], harness := (true, "ea3f7ff824fad8469cfafeae6d707d1acddd30bd4a1d5bdc74aa52b324d71a1b"), looks := true }, kinds := [], alts := [], laidByText := true, laidKinds := [.data, .data, .data, .data, .sentinel, .sentinel, .pinned], laidTests := true, laidLooks := .later }
def PlanAddsUptoCardSaid : Prop := Claim7.holds Tryd.pinned (.plain (OpenSpec.upto planAddsSpec)) planAddsUptoCard
end Rows
end Go.Proofs.YtgnlanfpholdaaaDoor
