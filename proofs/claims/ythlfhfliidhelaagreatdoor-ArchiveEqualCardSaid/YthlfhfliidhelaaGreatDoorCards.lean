/-
  DERIVED. GIVEN WITH THE SEED: THE CARDS: each row of YthlfhfliidhelaaGreatDoorRows.lean that lists a variable, with what it lists TIED to the program's text (the seventh form; the later family's looks); each row that meets fmt, with fmt's text TOLD by the authors' own Lean function (tested against real Go, not proved from fmt's source: count such statements apart). THE CARD IS WHAT COUNTS. Prove the row's statement (the work); the ties are given (YthlfhfliidhelaaGreatDoorTie.lean); close each card by the builder's one call (the guide's Derived/Test/ToyasCard.lean, 'card_holds'). Laid BY PROGRAM, IN A SANDBOX (cutbox-door.mjs). By AI agents, Wed Nov 11 2026. No macro, syntax, notation, axiom, sorry.
-/
import Derived.Test.YthlfhfliidhelaaGreatDoorRows
import GoSem.ClaimSeven
namespace Go.Proofs.YthlfhfliidhelaaGreatDoor
namespace Rows

/-- THE TIED CARD OF 'mailboatlaw60.ArchiveEqual'. -/
def archiveEqualCard : Claim7 := { stood := { row := archiveEqualRow, standIns := [], harness := (true, "c35b153496e1247b3d8d8d7cdd52279febaefdd6f0129448c76d6165a8d21858"), looks := true }, kinds := [], alts := [], laidByText := true, laidKinds := [.pinned, .data, .data, .data, .data, .sentinel, .sentinel, .data, .listed], laidTests := true, laidLooks := .later }
def ArchiveEqualCardSaid : Prop := Claim7.holds Tryz.pinned (.plain (OpenSpec.ofChange archiveEqualSpec)) archiveEqualCard

/-- THE SECOND FORM's CARD OF 'mailboatlaw60.ArchiveEqual'. -/
def archiveEqualUptoCard : Claim7 := { stood := { row := archiveEqualUptoRow, standIns := [], harness := (true, "c35b153496e1247b3d8d8d7cdd52279febaefdd6f0129448c76d6165a8d21858"), looks := true }, kinds := [], alts := [], laidByText := true, laidKinds := [.pinned, .data, .data, .data, .data, .sentinel, .sentinel, .data, .listed], laidTests := true, laidLooks := .later }
def ArchiveEqualUptoCardSaid : Prop := Claim7.holds Tryz.pinned (.plain (OpenSpec.upto archiveEqualSpec)) archiveEqualUptoCard
end Rows
end Go.Proofs.YthlfhfliidhelaaGreatDoor
