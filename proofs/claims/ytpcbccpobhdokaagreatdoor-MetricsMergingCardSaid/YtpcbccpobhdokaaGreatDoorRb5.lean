/- MetricsMerging: the facts of the row, one by one. -/
import Derived.Test.YtpcbccpobhdokaaGreatDoorCards
import Derived.Test.YtpcbccpobhdokaaGreatDoorRows
import Derived.Test.YtpcbccpobhdokaaGreatDoorRc5
import Derived.ProofKit
import Derived.OpenShut
import Derived.JoinedCond
import Derived.LaidMore
import Derived.Lay
import Derived.SevenTiedAt
import Derived.Stop.Joined
import Derived.Deep.Matrix
import Derived.Deep.Slices
import Derived.HandedShaped
import Derived.Shelf.Vars
set_option linter.unusedSimpArgs false
set_option linter.unusedVariables false
set_option linter.all false
namespace Go.Proofs.YtpcbccpobhdokaaGreatDoor
open Go.ChangeShapes Go.WideShapes Go.ChangeAt Go.RowKit
set_option maxRecDepth 1000000 in
theorem m5_k1 : (Rows.metricsMergingRow.wf (OpenSpec.ofChange Rows.metricsMergingSpec)) = true := by kernel_rfl
set_option maxRecDepth 1000000 in
theorem m5_k3 : (mapsRowed Tryz.prog) = true := by kernel_rfl
set_option maxRecDepth 1000000 in
theorem m5_k4 : (Tryz.f5.params.all (Tryz.prog.readableRec ·)) = true := by kernel_rfl
set_option maxRecDepth 1000000 in
theorem m5_k5 : (namedTie Tryz.prog Rows.metricsMergingRow.named Rows.metricsMergingSpec.vars) = true := by kernel_rfl
set_option maxRecDepth 1000000 in
theorem m5_k6 : (Rows.metricsMergingRow.stops == []) = true := by kernel_rfl
set_option maxRecDepth 1000000 in
theorem m5_k7 : (Tryz.prog.stops == []) = true := by kernel_rfl
set_option maxRecDepth 1000000 in
theorem m5_k8 : (Rows.metricsMergingRow.knobs == []) = true := by kernel_rfl
set_option maxRecDepth 1000000 in
theorem m5_k9 : (Tryz.prog.stopKnobs == []) = true := by kernel_rfl
set_option maxRecDepth 1000000 in
theorem m5_k14 : (Rows.metricsMergingRow.maps == (Tryz.f5.params.toList ++ Rows.metricsMergingSpec.plain.varTypes Tryz.prog).any (Tryz.prog.mapsRec ·)) = true := by kernel_rfl
set_option maxRecDepth 1000000 in
theorem m5_k15 : (Rows.metricsMergingRow.ifaces == (Tryz.f5.params.toList ++ Rows.metricsMergingSpec.plain.varTypes Tryz.prog).any (Tryz.prog.ifacesRec ·)) = true := by kernel_rfl
set_option maxRecDepth 1000000 in
theorem m5_k16 : (Rows.metricsMergingRow.mapsOut == Tryz.prog.mapsAmong Tryz.f5.resultTypes.toList) = true := by kernel_rfl
set_option maxRecDepth 1000000 in
theorem m5_k17 : (Rows.metricsMergingRow.loops == (Tryz.f5.params.toList ++ Rows.metricsMergingSpec.plain.varTypes Tryz.prog).any (Tryz.prog.loopsFrom ·)) = true := by kernel_rfl
set_option maxRecDepth 1000000 in
theorem m5_k18 : (Rows.metricsMergingRow.wideKeys == (Tryz.f5.params.toList ++ Rows.metricsMergingSpec.plain.varTypes Tryz.prog ++ Tryz.f5.resultTypes.toList).any (Tryz.prog.wideKeysFrom ·)) = true := by kernel_rfl
set_option maxRecDepth 1000000 in
theorem m5_k19 : (Rows.metricsMergingSpec.vars.all (Tryz.prog.varReadable ·)) = true := by kernel_rfl
set_option maxRecDepth 1000000 in
theorem m5_k20 : (Tryz.f5.resultTypes.all (fun t => Tryz.prog.readableRec t && decide (t < Tryz.prog.types.size))) = true := by kernel_rfl
set_option maxRecDepth 1000000 in
theorem m5_k21 : (Rows.metricsMergingRow.ifacesOut == Tryz.f5.resultTypes.toList.any (Tryz.prog.ifacesRec ·)) = true := by kernel_rfl
set_option maxRecDepth 1000000 in
theorem m5_k22 : (Rows.metricsMergingRow.loopsOut == Tryz.f5.resultTypes.toList.any (Tryz.prog.loopsFrom ·)) = true := by kernel_rfl
set_option maxRecDepth 1000000 in
theorem m5_k23 : (Rows.metricsMergingRow.plainKeys == Tryz.prog.plainKeys) = true := by kernel_rfl
set_option maxRecDepth 1000000 in
theorem m5_k24 : (Rows.metricsMergingRow.shortTexts.isNone) = true := by kernel_rfl
set_option maxRecDepth 1000000 in
theorem m5_k25 : (Tryz.prog.stopsHeard) = true := by kernel_rfl
set_option maxRecDepth 1000000 in
theorem m5_k26 : (Tryz.prog.mayEnter) = true := by kernel_rfl
set_option maxRecDepth 1000000 in
theorem m5_k27 : (Rows.metricsMergingRow.lifted == Tryz.prog.liftsFinal) = true := by kernel_rfl
set_option maxRecDepth 1000000 in
theorem m5_k28 : (Tryz.prog.make == some Rows.metricsMergingRow.make) = true := by kernel_rfl
set_option maxRecDepth 1000000 in
theorem m5_k29 : (Rows.metricsMergingRow.kinds == (if Rows.metricsMergingRow.domain.isEmpty then [] else Tryz.f5.params.toList.map fun t => match Tryz.prog.underlying t with | some (.int k) => some k | _ => none)) = true := by kernel_rfl
set_option maxRecDepth 1000000 in
theorem m5_k30 : (Rows.metricsMergingRow.pinned == Rows.metricsMergingRow.pinnedBy) = true := by kernel_rfl
set_option maxRecDepth 1000000 in
theorem m5_k31 : (Rows.metricsMergingRow.veiled == (Tryz.f5.params.toList ++ Rows.metricsMergingSpec.plain.varTypes Tryz.prog ++ Tryz.f5.resultTypes.toList).any (Tryz.prog.veiledRec ·)) = true := by kernel_rfl
set_option maxRecDepth 1000000 in
theorem m5_k32 : (Rows.metricsMergingRow.veiledFits Tryz.prog Tryz.f5.params.toList (Tryz.f5.params.toList ++ Rows.metricsMergingSpec.plain.varTypes Tryz.prog ++ Tryz.f5.resultTypes.toList)) = true := by kernel_rfl
end Go.Proofs.YtpcbccpobhdokaaGreatDoor
