/-
  DERIVED. GIVEN WITH THE SEED: THE CARDS: each row of YtfafhdganloipaaGreatDoorRows.lean that lists a variable, with what it lists TIED to the program's text (the seventh form; the later family's looks); each row that meets fmt, with fmt's text TOLD by the authors' own Lean function (tested against real Go, not proved from fmt's source: count such statements apart). THE CARD IS WHAT COUNTS. Prove the row's statement (the work); the ties are given (YtfafhdganloipaaGreatDoorTie.lean); close each card by the builder's one call (the guide's Derived/Test/ToyasCard.lean, 'card_holds'). Laid BY PROGRAM, IN A SANDBOX (cutbox-door.mjs). By AI agents, Wed Nov 11 2026. No macro, syntax, notation, axiom, sorry.
-/
import Derived.Test.YtfafhdganloipaaGreatDoorRows
import GoSem.ClaimSeven
namespace Go.Proofs.YtfafhdganloipaaGreatDoor
namespace Rows

/-- THE TIED CARD OF 'mailboattop.TopArchiveDamage'. -/
def topArchiveDamageCard : Claim7 := { stood := { row := topArchiveDamageRow, standIns := [], harness := (true, "dec659e35ca6acd5f33d10ffbc5f0ed886e06d3d3ab3e86882e4e0f56de7504d"), looks := true }, kinds := [], alts := [], laidByText := true, laidKinds := [.pinned, .data, .data, .data, .data], laidTests := true, laidLooks := .later }
def TopArchiveDamageCardSaid : Prop := Claim7.holds Tryz.pinned (.plain (OpenSpec.ofChange topArchiveDamageSpec)) topArchiveDamageCard

/-- THE SECOND FORM's CARD OF 'mailboattop.TopArchiveDamage'. -/
def topArchiveDamageUptoCard : Claim7 := { stood := { row := topArchiveDamageUptoRow, standIns := [], harness := (true, "dec659e35ca6acd5f33d10ffbc5f0ed886e06d3d3ab3e86882e4e0f56de7504d"), looks := true }, kinds := [], alts := [], laidByText := true, laidKinds := [.pinned, .data, .data, .data, .data], laidTests := true, laidLooks := .later }
def TopArchiveDamageUptoCardSaid : Prop := Claim7.holds Tryz.pinned (.plain (OpenSpec.upto topArchiveDamageSpec)) topArchiveDamageUptoCard
end Rows
end Go.Proofs.YtfafhdganloipaaGreatDoor
