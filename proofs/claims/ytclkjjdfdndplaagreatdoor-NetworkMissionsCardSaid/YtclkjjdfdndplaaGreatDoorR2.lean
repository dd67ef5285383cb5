/- NetworkMissions: the package-level variables that the row names. -/
import Derived.Test.YtclkjjdfdndplaaGreatDoorCards
import Derived.Test.YtclkjjdfdndplaaGreatDoorTie
import Derived.ProofKit
import Derived.OpenShut
import Derived.JoinedCond
import Derived.LaidMore
import Derived.Lay
import Derived.SevenTiedAt
import Derived.Stop.Joined
import Derived.Deep.Matrix
import Derived.Deep.Slices
import Derived.HandedShaped
import Derived.Shelf.Vars
namespace Go.Proofs.YtclkjjdfdndplaaGreatDoor
open Go.ChangeShapes Go.WideShapes Go.ChangeAt Go.RowKit
theorem nm_k13 : (Rows.networkMissionsRow.named == Tryz.prog.varsNamed (3 : FuncId)) = true := by kernel_rfl
end Go.Proofs.YtclkjjdfdndplaaGreatDoor
