/- NetworkMissions: the facts of the row, one by one. -/
import Derived.Test.YtclkjjdfdndplaaGreatDoorCards
import Derived.Test.YtclkjjdfdndplaaGreatDoorTie
import Derived.ProofKit
import Derived.OpenShut
import Derived.JoinedCond
import Derived.LaidMore
import Derived.Lay
import Derived.SevenTiedAt
import Derived.Stop.Joined
import Derived.Deep.Matrix
import Derived.Deep.Slices
import Derived.HandedShaped
import Derived.Shelf.Vars
namespace Go.Proofs.YtclkjjdfdndplaaGreatDoor
open Go.ChangeShapes Go.WideShapes Go.ChangeAt Go.RowKit
theorem nm_k1 : (Rows.networkMissionsRow.wf (OpenSpec.ofChange Rows.networkMissionsSpec)) = true := by kernel_rfl
theorem nm_k3 : (mapsRowed Tryz.prog) = true := by kernel_rfl
theorem nm_k4 : (Tryz.f3.params.all (Tryz.prog.readableRec ·)) = true := by kernel_rfl
theorem nm_k5 : (namedTie Tryz.prog Rows.networkMissionsRow.named Rows.networkMissionsSpec.vars) = true := by kernel_rfl
theorem nm_k6 : (Rows.networkMissionsRow.stops == []) = true := by kernel_rfl
theorem nm_k7 : (Tryz.prog.stops == []) = true := by kernel_rfl
theorem nm_k8 : (Rows.networkMissionsRow.knobs == []) = true := by kernel_rfl
theorem nm_k9 : (Tryz.prog.stopKnobs == []) = true := by kernel_rfl
theorem nm_k10 : (Rows.networkMissionsRow.inPlace == Tryz.prog.inPlace (3 : FuncId)) = true := by kernel_rfl
theorem nm_k11 : (Rows.networkMissionsRow.unfollowed == Tryz.prog.unfollowed (3 : FuncId)) = true := by kernel_rfl
theorem nm_k12 : (Rows.networkMissionsRow.recurses == Tryz.prog.recurses (3 : FuncId)) = true := by kernel_rfl
theorem nm_k14 : (Rows.networkMissionsRow.maps == (Tryz.f3.params.toList ++ Rows.networkMissionsSpec.plain.varTypes Tryz.prog).any (Tryz.prog.mapsRec ·)) = true := by kernel_rfl
theorem nm_k15 : (Rows.networkMissionsRow.ifaces == (Tryz.f3.params.toList ++ Rows.networkMissionsSpec.plain.varTypes Tryz.prog).any (Tryz.prog.ifacesRec ·)) = true := by kernel_rfl
theorem nm_k16 : (Rows.networkMissionsRow.mapsOut == Tryz.prog.mapsAmong Tryz.f3.resultTypes.toList) = true := by kernel_rfl
theorem nm_k17 : (Rows.networkMissionsRow.loops == (Tryz.f3.params.toList ++ Rows.networkMissionsSpec.plain.varTypes Tryz.prog).any (Tryz.prog.loopsFrom ·)) = true := by kernel_rfl
theorem nm_k18 : (Rows.networkMissionsRow.wideKeys == (Tryz.f3.params.toList ++ Rows.networkMissionsSpec.plain.varTypes Tryz.prog ++ Tryz.f3.resultTypes.toList).any (Tryz.prog.wideKeysFrom ·)) = true := by kernel_rfl
theorem nm_k19 : (Rows.networkMissionsSpec.vars.all (Tryz.prog.varReadable ·)) = true := by kernel_rfl
theorem nm_k20 : (Tryz.f3.resultTypes.all (fun t => Tryz.prog.readableRec t && decide (t < Tryz.prog.types.size))) = true := by kernel_rfl
theorem nm_k21 : (Rows.networkMissionsRow.ifacesOut == Tryz.f3.resultTypes.toList.any (Tryz.prog.ifacesRec ·)) = true := by kernel_rfl
theorem nm_k22 : (Rows.networkMissionsRow.loopsOut == Tryz.f3.resultTypes.toList.any (Tryz.prog.loopsFrom ·)) = true := by kernel_rfl
theorem nm_k23 : (Rows.networkMissionsRow.plainKeys == Tryz.prog.plainKeys) = true := by kernel_rfl
theorem nm_k24 : (Rows.networkMissionsRow.shortTexts.isNone) = true := by kernel_rfl
theorem nm_k25 : (Tryz.prog.stopsHeard) = true := by kernel_rfl
theorem nm_k26 : (Tryz.prog.mayEnter) = true := by kernel_rfl
theorem nm_k27 : (Rows.networkMissionsRow.lifted == Tryz.prog.liftsFinal) = true := by kernel_rfl
theorem nm_k28 : (Tryz.prog.make == some Rows.networkMissionsRow.make) = true := by kernel_rfl
theorem nm_k29 : (Rows.networkMissionsRow.kinds == (if Rows.networkMissionsRow.domain.isEmpty then [] else Tryz.f3.params.toList.map fun t => match Tryz.prog.underlying t with | some (.int k) => some k | _ => none)) = true := by kernel_rfl
theorem nm_k30 : (Rows.networkMissionsRow.pinned == Rows.networkMissionsRow.pinnedBy) = true := by kernel_rfl
theorem nm_k31 : (Rows.networkMissionsRow.veiled == (Tryz.f3.params.toList ++ Rows.networkMissionsSpec.plain.varTypes Tryz.prog ++ Tryz.f3.resultTypes.toList).any (Tryz.prog.veiledRec ·)) = true := by kernel_rfl
theorem nm_k32 : (Rows.networkMissionsRow.veiledFits Tryz.prog Tryz.f3.params.toList (Tryz.f3.params.toList ++ Rows.networkMissionsSpec.plain.varTypes Tryz.prog ++ Tryz.f3.resultTypes.toList)) = true := by kernel_rfl
end Go.Proofs.YtclkjjdfdndplaaGreatDoor
