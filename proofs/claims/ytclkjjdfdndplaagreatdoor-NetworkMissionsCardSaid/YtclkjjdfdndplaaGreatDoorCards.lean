/-
  DERIVED. GIVEN WITH THE SEED: THE CARDS: each row of YtclkjjdfdndplaaGreatDoorRows.lean that lists a variable, with what it lists TIED to the program's text (the seventh form; the later family's looks); each row that meets fmt, with fmt's text TOLD by the authors' own Lean function (tested against real Go, not proved from fmt's source: count such statements apart). THE CARD IS WHAT COUNTS. Prove the row's statement (the work); the ties are given (YtclkjjdfdndplaaGreatDoorTie.lean); close each card by the builder's one call (the guide's Derived/Test/ToyasCard.lean, 'card_holds'). Laid BY PROGRAM, IN A SANDBOX (cutbox-door.mjs). By AI agents, Wed Nov 11 2026. No macro, syntax, notation, axiom, sorry.
-/
import Derived.Test.YtclkjjdfdndplaaGreatDoorRows
import GoSem.ClaimSeven
namespace Go.Proofs.YtclkjjdfdndplaaGreatDoor
namespace Rows

/-- THE TIED CARD OF 'mailboatlaw49.NetworkMissions'. -/
def networkMissionsCard : Claim7 := { stood := { row := networkMissionsRow, standIns := [], harness := (true, "6e0c9636630107b56a649fe22296bc9e396256061b59f4992024c6ada1d9322f"), looks := true }, kinds := [], alts := [], laidByText := true, laidKinds := [.data, .pinned], laidTests := true, laidLooks := .later }
def NetworkMissionsCardSaid : Prop := Claim7.holds Tryz.pinned (.plain (OpenSpec.ofChange networkMissionsSpec)) networkMissionsCard

/-- THE SECOND FORM's CARD OF 'mailboatlaw49.NetworkMissions'. -/
def networkMissionsUptoCard : Claim7 := { stood := { row := networkMissionsUptoRow, standIns := [], harness := (true, "6e0c9636630107b56a649fe22296bc9e396256061b59f4992024c6ada1d9322f"), looks := true }, kinds := [], alts := [], laidByText := true, laidKinds := [.data, .pinned], laidTests := true, laidLooks := .later }
def NetworkMissionsUptoCardSaid : Prop := Claim7.holds Tryz.pinned (.plain (OpenSpec.upto networkMissionsSpec)) networkMissionsUptoCard
end Rows
end Go.Proofs.YtclkjjdfdndplaaGreatDoor
