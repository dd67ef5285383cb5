/- MetricsLists: the facts of the row, one by one. -/
import Derived.Test.YtpcbccpobhdokaaGreatDoorCards
import Derived.Test.YtpcbccpobhdokaaGreatDoorRows
import Derived.Test.YtpcbccpobhdokaaGreatDoorRc3
import Derived.ProofKit
import Derived.OpenShut
import Derived.JoinedCond
import Derived.LaidMore
import Derived.Lay
import Derived.SevenTiedAt
import Derived.Stop.Joined
import Derived.Deep.Matrix
import Derived.Deep.Slices
import Derived.HandedShaped
import Derived.Shelf.Vars
set_option linter.unusedSimpArgs false
set_option linter.unusedVariables false
set_option linter.all false
namespace Go.Proofs.YtpcbccpobhdokaaGreatDoor
open Go.ChangeShapes Go.WideShapes Go.ChangeAt Go.RowKit
set_option maxRecDepth 1000000 in
theorem m3_k1 : (Rows.metricsListsRow.wf (OpenSpec.ofChange Rows.metricsListsSpec)) = true := by kernel_rfl
set_option maxRecDepth 1000000 in
theorem m3_k3 : (mapsRowed Tryz.prog) = true := by kernel_rfl
set_option maxRecDepth 1000000 in
theorem m3_k4 : (Tryz.f3.params.all (Tryz.prog.readableRec ·)) = true := by kernel_rfl
set_option maxRecDepth 1000000 in
theorem m3_k5 : (namedTie Tryz.prog Rows.metricsListsRow.named Rows.metricsListsSpec.vars) = true := by kernel_rfl
set_option maxRecDepth 1000000 in
theorem m3_k6 : (Rows.metricsListsRow.stops == []) = true := by kernel_rfl
set_option maxRecDepth 1000000 in
theorem m3_k7 : (Tryz.prog.stops == []) = true := by kernel_rfl
set_option maxRecDepth 1000000 in
theorem m3_k8 : (Rows.metricsListsRow.knobs == []) = true := by kernel_rfl
set_option maxRecDepth 1000000 in
theorem m3_k9 : (Tryz.prog.stopKnobs == []) = true := by kernel_rfl
set_option maxRecDepth 1000000 in
theorem m3_k14 : (Rows.metricsListsRow.maps == (Tryz.f3.params.toList ++ Rows.metricsListsSpec.plain.varTypes Tryz.prog).any (Tryz.prog.mapsRec ·)) = true := by kernel_rfl
set_option maxRecDepth 1000000 in
theorem m3_k15 : (Rows.metricsListsRow.ifaces == (Tryz.f3.params.toList ++ Rows.metricsListsSpec.plain.varTypes Tryz.prog).any (Tryz.prog.ifacesRec ·)) = true := by kernel_rfl
set_option maxRecDepth 1000000 in
theorem m3_k16 : (Rows.metricsListsRow.mapsOut == Tryz.prog.mapsAmong Tryz.f3.resultTypes.toList) = true := by kernel_rfl
set_option maxRecDepth 1000000 in
theorem m3_k17 : (Rows.metricsListsRow.loops == (Tryz.f3.params.toList ++ Rows.metricsListsSpec.plain.varTypes Tryz.prog).any (Tryz.prog.loopsFrom ·)) = true := by kernel_rfl
set_option maxRecDepth 1000000 in
theorem m3_k18 : (Rows.metricsListsRow.wideKeys == (Tryz.f3.params.toList ++ Rows.metricsListsSpec.plain.varTypes Tryz.prog ++ Tryz.f3.resultTypes.toList).any (Tryz.prog.wideKeysFrom ·)) = true := by kernel_rfl
set_option maxRecDepth 1000000 in
theorem m3_k19 : (Rows.metricsListsSpec.vars.all (Tryz.prog.varReadable ·)) = true := by kernel_rfl
set_option maxRecDepth 1000000 in
theorem m3_k20 : (Tryz.f3.resultTypes.all (fun t => Tryz.prog.readableRec t && decide (t < Tryz.prog.types.size))) = true := by kernel_rfl
set_option maxRecDepth 1000000 in
theorem m3_k21 : (Rows.metricsListsRow.ifacesOut == Tryz.f3.resultTypes.toList.any (Tryz.prog.ifacesRec ·)) = true := by kernel_rfl
set_option maxRecDepth 1000000 in
theorem m3_k22 : (Rows.metricsListsRow.loopsOut == Tryz.f3.resultTypes.toList.any (Tryz.prog.loopsFrom ·)) = true := by kernel_rfl
set_option maxRecDepth 1000000 in
theorem m3_k23 : (Rows.metricsListsRow.plainKeys == Tryz.prog.plainKeys) = true := by kernel_rfl
set_option maxRecDepth 1000000 in
theorem m3_k24 : (Rows.metricsListsRow.shortTexts.isNone) = true := by kernel_rfl
set_option maxRecDepth 1000000 in
theorem m3_k25 : (Tryz.prog.stopsHeard) = true := by kernel_rfl
set_option maxRecDepth 1000000 in
theorem m3_k26 : (Tryz.prog.mayEnter) = true := by kernel_rfl
set_option maxRecDepth 1000000 in
theorem m3_k27 : (Rows.metricsListsRow.lifted == Tryz.prog.liftsFinal) = true := by kernel_rfl
set_option maxRecDepth 1000000 in
theorem m3_k28 : (Tryz.prog.make == some Rows.metricsListsRow.make) = true := by kernel_rfl
set_option maxRecDepth 1000000 in
theorem m3_k29 : (Rows.metricsListsRow.kinds == (if Rows.metricsListsRow.domain.isEmpty then [] else Tryz.f3.params.toList.map fun t => match Tryz.prog.underlying t with | some (.int k) => some k | _ => none)) = true := by kernel_rfl
set_option maxRecDepth 1000000 in
theorem m3_k30 : (Rows.metricsListsRow.pinned == Rows.metricsListsRow.pinnedBy) = true := by kernel_rfl
set_option maxRecDepth 1000000 in
theorem m3_k31 : (Rows.metricsListsRow.veiled == (Tryz.f3.params.toList ++ Rows.metricsListsSpec.plain.varTypes Tryz.prog ++ Tryz.f3.resultTypes.toList).any (Tryz.prog.veiledRec ·)) = true := by kernel_rfl
set_option maxRecDepth 1000000 in
theorem m3_k32 : (Rows.metricsListsRow.veiledFits Tryz.prog Tryz.f3.params.toList (Tryz.f3.params.toList ++ Rows.metricsListsSpec.plain.varTypes Tryz.prog ++ Tryz.f3.resultTypes.toList)) = true := by kernel_rfl
end Go.Proofs.YtpcbccpobhdokaaGreatDoor
