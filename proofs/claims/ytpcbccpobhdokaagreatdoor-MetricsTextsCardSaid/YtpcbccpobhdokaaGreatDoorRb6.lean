/- MetricsTexts: the facts of the row, one by one. -/
import Derived.Test.YtpcbccpobhdokaaGreatDoorCards
import Derived.Test.YtpcbccpobhdokaaGreatDoorRows
import Derived.Test.YtpcbccpobhdokaaGreatDoorRc6
import Derived.ProofKit
import Derived.OpenShut
import Derived.JoinedCond
import Derived.LaidMore
import Derived.Lay
import Derived.SevenTiedAt
import Derived.Stop.Joined
import Derived.Deep.Matrix
import Derived.Deep.Slices
import Derived.HandedShaped
import Derived.Shelf.Vars
set_option linter.unusedSimpArgs false
set_option linter.unusedVariables false
set_option linter.all false
namespace Go.Proofs.YtpcbccpobhdokaaGreatDoor
open Go.ChangeShapes Go.WideShapes Go.ChangeAt Go.RowKit
set_option maxRecDepth 1000000 in
theorem m6_k1 : (Rows.metricsTextsRow.wf (OpenSpec.ofChange Rows.metricsTextsSpec)) = true := by kernel_rfl
set_option maxRecDepth 1000000 in
theorem m6_k3 : (mapsRowed Tryz.prog) = true := by kernel_rfl
set_option maxRecDepth 1000000 in
theorem m6_k4 : (Tryz.f6.params.all (Tryz.prog.readableRec ·)) = true := by kernel_rfl
set_option maxRecDepth 1000000 in
theorem m6_k5 : (namedTie Tryz.prog Rows.metricsTextsRow.named Rows.metricsTextsSpec.vars) = true := by kernel_rfl
set_option maxRecDepth 1000000 in
theorem m6_k6 : (Rows.metricsTextsRow.stops == []) = true := by kernel_rfl
set_option maxRecDepth 1000000 in
theorem m6_k7 : (Tryz.prog.stops == []) = true := by kernel_rfl
set_option maxRecDepth 1000000 in
theorem m6_k8 : (Rows.metricsTextsRow.knobs == []) = true := by kernel_rfl
set_option maxRecDepth 1000000 in
theorem m6_k9 : (Tryz.prog.stopKnobs == []) = true := by kernel_rfl
set_option maxRecDepth 1000000 in
theorem m6_k14 : (Rows.metricsTextsRow.maps == (Tryz.f6.params.toList ++ Rows.metricsTextsSpec.plain.varTypes Tryz.prog).any (Tryz.prog.mapsRec ·)) = true := by kernel_rfl
set_option maxRecDepth 1000000 in
theorem m6_k15 : (Rows.metricsTextsRow.ifaces == (Tryz.f6.params.toList ++ Rows.metricsTextsSpec.plain.varTypes Tryz.prog).any (Tryz.prog.ifacesRec ·)) = true := by kernel_rfl
set_option maxRecDepth 1000000 in
theorem m6_k16 : (Rows.metricsTextsRow.mapsOut == Tryz.prog.mapsAmong Tryz.f6.resultTypes.toList) = true := by kernel_rfl
set_option maxRecDepth 1000000 in
theorem m6_k17 : (Rows.metricsTextsRow.loops == (Tryz.f6.params.toList ++ Rows.metricsTextsSpec.plain.varTypes Tryz.prog).any (Tryz.prog.loopsFrom ·)) = true := by kernel_rfl
set_option maxRecDepth 1000000 in
theorem m6_k18 : (Rows.metricsTextsRow.wideKeys == (Tryz.f6.params.toList ++ Rows.metricsTextsSpec.plain.varTypes Tryz.prog ++ Tryz.f6.resultTypes.toList).any (Tryz.prog.wideKeysFrom ·)) = true := by kernel_rfl
set_option maxRecDepth 1000000 in
theorem m6_k19 : (Rows.metricsTextsSpec.vars.all (Tryz.prog.varReadable ·)) = true := by kernel_rfl
set_option maxRecDepth 1000000 in
theorem m6_k20 : (Tryz.f6.resultTypes.all (fun t => Tryz.prog.readableRec t && decide (t < Tryz.prog.types.size))) = true := by kernel_rfl
set_option maxRecDepth 1000000 in
theorem m6_k21 : (Rows.metricsTextsRow.ifacesOut == Tryz.f6.resultTypes.toList.any (Tryz.prog.ifacesRec ·)) = true := by kernel_rfl
set_option maxRecDepth 1000000 in
theorem m6_k22 : (Rows.metricsTextsRow.loopsOut == Tryz.f6.resultTypes.toList.any (Tryz.prog.loopsFrom ·)) = true := by kernel_rfl
set_option maxRecDepth 1000000 in
theorem m6_k23 : (Rows.metricsTextsRow.plainKeys == Tryz.prog.plainKeys) = true := by kernel_rfl
set_option maxRecDepth 1000000 in
theorem m6_k24 : (Rows.metricsTextsRow.shortTexts.isNone) = true := by kernel_rfl
set_option maxRecDepth 1000000 in
theorem m6_k25 : (Tryz.prog.stopsHeard) = true := by kernel_rfl
set_option maxRecDepth 1000000 in
theorem m6_k26 : (Tryz.prog.mayEnter) = true := by kernel_rfl
set_option maxRecDepth 1000000 in
theorem m6_k27 : (Rows.metricsTextsRow.lifted == Tryz.prog.liftsFinal) = true := by kernel_rfl
set_option maxRecDepth 1000000 in
theorem m6_k28 : (Tryz.prog.make == some Rows.metricsTextsRow.make) = true := by kernel_rfl
set_option maxRecDepth 1000000 in
theorem m6_k29 : (Rows.metricsTextsRow.kinds == (if Rows.metricsTextsRow.domain.isEmpty then [] else Tryz.f6.params.toList.map fun t => match Tryz.prog.underlying t with | some (.int k) => some k | _ => none)) = true := by kernel_rfl
set_option maxRecDepth 1000000 in
theorem m6_k30 : (Rows.metricsTextsRow.pinned == Rows.metricsTextsRow.pinnedBy) = true := by kernel_rfl
set_option maxRecDepth 1000000 in
theorem m6_k31 : (Rows.metricsTextsRow.veiled == (Tryz.f6.params.toList ++ Rows.metricsTextsSpec.plain.varTypes Tryz.prog ++ Tryz.f6.resultTypes.toList).any (Tryz.prog.veiledRec ·)) = true := by kernel_rfl
set_option maxRecDepth 1000000 in
theorem m6_k32 : (Rows.metricsTextsRow.veiledFits Tryz.prog Tryz.f6.params.toList (Tryz.f6.params.toList ++ Rows.metricsTextsSpec.plain.varTypes Tryz.prog ++ Tryz.f6.resultTypes.toList)) = true := by kernel_rfl
end Go.Proofs.YtpcbccpobhdokaaGreatDoor
