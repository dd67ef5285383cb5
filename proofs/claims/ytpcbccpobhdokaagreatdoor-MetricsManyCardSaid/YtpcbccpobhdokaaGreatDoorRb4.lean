/- MetricsMany: the facts of the row, one by one. -/
import Derived.Test.YtpcbccpobhdokaaGreatDoorCards
import Derived.Test.YtpcbccpobhdokaaGreatDoorRows
import Derived.Test.YtpcbccpobhdokaaGreatDoorRc4
import Derived.ProofKit
import Derived.OpenShut
import Derived.JoinedCond
import Derived.LaidMore
import Derived.Lay
import Derived.SevenTiedAt
import Derived.Stop.Joined
import Derived.Deep.Matrix
import Derived.Deep.Slices
import Derived.HandedShaped
import Derived.Shelf.Vars
set_option linter.unusedSimpArgs false
set_option linter.unusedVariables false
set_option linter.all false
namespace Go.Proofs.YtpcbccpobhdokaaGreatDoor
open Go.ChangeShapes Go.WideShapes Go.ChangeAt Go.RowKit
set_option maxRecDepth 1000000 in
theorem m4_k1 : (Rows.metricsManyRow.wf (OpenSpec.ofChange Rows.metricsManySpec)) = true := by kernel_rfl
set_option maxRecDepth 1000000 in
theorem m4_k3 : (mapsRowed Tryz.prog) = true := by kernel_rfl
set_option maxRecDepth 1000000 in
theorem m4_k4 : (Tryz.f4.params.all (Tryz.prog.readableRec ·)) = true := by kernel_rfl
set_option maxRecDepth 1000000 in
theorem m4_k5 : (namedTie Tryz.prog Rows.metricsManyRow.named Rows.metricsManySpec.vars) = true := by kernel_rfl
set_option maxRecDepth 1000000 in
theorem m4_k6 : (Rows.metricsManyRow.stops == []) = true := by kernel_rfl
set_option maxRecDepth 1000000 in
theorem m4_k7 : (Tryz.prog.stops == []) = true := by kernel_rfl
set_option maxRecDepth 1000000 in
theorem m4_k8 : (Rows.metricsManyRow.knobs == []) = true := by kernel_rfl
set_option maxRecDepth 1000000 in
theorem m4_k9 : (Tryz.prog.stopKnobs == []) = true := by kernel_rfl
set_option maxRecDepth 1000000 in
theorem m4_k14 : (Rows.metricsManyRow.maps == (Tryz.f4.params.toList ++ Rows.metricsManySpec.plain.varTypes Tryz.prog).any (Tryz.prog.mapsRec ·)) = true := by kernel_rfl
set_option maxRecDepth 1000000 in
theorem m4_k15 : (Rows.metricsManyRow.ifaces == (Tryz.f4.params.toList ++ Rows.metricsManySpec.plain.varTypes Tryz.prog).any (Tryz.prog.ifacesRec ·)) = true := by kernel_rfl
set_option maxRecDepth 1000000 in
theorem m4_k16 : (Rows.metricsManyRow.mapsOut == Tryz.prog.mapsAmong Tryz.f4.resultTypes.toList) = true := by kernel_rfl
set_option maxRecDepth 1000000 in
theorem m4_k17 : (Rows.metricsManyRow.loops == (Tryz.f4.params.toList ++ Rows.metricsManySpec.plain.varTypes Tryz.prog).any (Tryz.prog.loopsFrom ·)) = true := by kernel_rfl
set_option maxRecDepth 1000000 in
theorem m4_k18 : (Rows.metricsManyRow.wideKeys == (Tryz.f4.params.toList ++ Rows.metricsManySpec.plain.varTypes Tryz.prog ++ Tryz.f4.resultTypes.toList).any (Tryz.prog.wideKeysFrom ·)) = true := by kernel_rfl
set_option maxRecDepth 1000000 in
theorem m4_k19 : (Rows.metricsManySpec.vars.all (Tryz.prog.varReadable ·)) = true := by kernel_rfl
set_option maxRecDepth 1000000 in
theorem m4_k20 : (Tryz.f4.resultTypes.all (fun t => Tryz.prog.readableRec t && decide (t < Tryz.prog.types.size))) = true := by kernel_rfl
set_option maxRecDepth 1000000 in
theorem m4_k21 : (Rows.metricsManyRow.ifacesOut == Tryz.f4.resultTypes.toList.any (Tryz.prog.ifacesRec ·)) = true := by kernel_rfl
set_option maxRecDepth 1000000 in
theorem m4_k22 : (Rows.metricsManyRow.loopsOut == Tryz.f4.resultTypes.toList.any (Tryz.prog.loopsFrom ·)) = true := by kernel_rfl
set_option maxRecDepth 1000000 in
theorem m4_k23 : (Rows.metricsManyRow.plainKeys == Tryz.prog.plainKeys) = true := by kernel_rfl
set_option maxRecDepth 1000000 in
theorem m4_k24 : (Rows.metricsManyRow.shortTexts.isNone) = true := by kernel_rfl
set_option maxRecDepth 1000000 in
theorem m4_k25 : (Tryz.prog.stopsHeard) = true := by kernel_rfl
set_option maxRecDepth 1000000 in
theorem m4_k26 : (Tryz.prog.mayEnter) = true := by kernel_rfl
set_option maxRecDepth 1000000 in
theorem m4_k27 : (Rows.metricsManyRow.lifted == Tryz.prog.liftsFinal) = true := by kernel_rfl
set_option maxRecDepth 1000000 in
theorem m4_k28 : (Tryz.prog.make == some Rows.metricsManyRow.make) = true := by kernel_rfl
set_option maxRecDepth 1000000 in
theorem m4_k29 : (Rows.metricsManyRow.kinds == (if Rows.metricsManyRow.domain.isEmpty then [] else Tryz.f4.params.toList.map fun t => match Tryz.prog.underlying t with | some (.int k) => some k | _ => none)) = true := by kernel_rfl
set_option maxRecDepth 1000000 in
theorem m4_k30 : (Rows.metricsManyRow.pinned == Rows.metricsManyRow.pinnedBy) = true := by kernel_rfl
set_option maxRecDepth 1000000 in
theorem m4_k31 : (Rows.metricsManyRow.veiled == (Tryz.f4.params.toList ++ Rows.metricsManySpec.plain.varTypes Tryz.prog ++ Tryz.f4.resultTypes.toList).any (Tryz.prog.veiledRec ·)) = true := by kernel_rfl
set_option maxRecDepth 1000000 in
theorem m4_k32 : (Rows.metricsManyRow.veiledFits Tryz.prog Tryz.f4.params.toList (Tryz.f4.params.toList ++ Rows.metricsManySpec.plain.varTypes Tryz.prog ++ Tryz.f4.resultTypes.toList)) = true := by kernel_rfl
end Go.Proofs.YtpcbccpobhdokaaGreatDoor
