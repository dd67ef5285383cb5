/- ArchiveEqual: the facts of the row, one by one. -/
import Derived.Test.YthlfhfliidhelaaGreatDoorRows
import Derived.Test.YthlfhfliidhelaaGreatDoorRc3
import Derived.ProofKit
import Derived.OpenShut
import Derived.JoinedCond
import Derived.LaidMore
import Derived.Lay
import Derived.SevenTiedAt
import Derived.Stop.Joined
import Derived.Deep.Matrix
import Derived.Deep.Slices
import Derived.HandedShaped
import Derived.Shelf.Vars
set_option linter.unusedSimpArgs false
set_option linter.unusedVariables false
set_option linter.all false
namespace Go.Proofs.YthlfhfliidhelaaGreatDoor
open Go.ChangeShapes Go.WideShapes Go.ChangeAt Go.RowKit
set_option maxRecDepth 1000000 in
theorem a3_k1 : (Rows.archiveEqualRow.wf (OpenSpec.ofChange Rows.archiveEqualSpec)) = true := by kernel_rfl
set_option maxRecDepth 1000000 in
theorem a3_k3 : (mapsRowed Tryz.prog) = true := by kernel_rfl
set_option maxRecDepth 1000000 in
theorem a3_k4 : (Tryz.f3.params.all (Tryz.prog.readableRec ·)) = true := by kernel_rfl
set_option maxRecDepth 1000000 in
theorem a3_k5 : (namedTie Tryz.prog Rows.archiveEqualRow.named Rows.archiveEqualSpec.vars) = true := by kernel_rfl
set_option maxRecDepth 1000000 in
theorem a3_k6 : (Rows.archiveEqualRow.stops == []) = true := by kernel_rfl
set_option maxRecDepth 1000000 in
theorem a3_k7 : (Tryz.prog.stops == []) = true := by kernel_rfl
set_option maxRecDepth 1000000 in
theorem a3_k8 : (Rows.archiveEqualRow.knobs == []) = true := by kernel_rfl
set_option maxRecDepth 1000000 in
theorem a3_k9 : (Tryz.prog.stopKnobs == []) = true := by kernel_rfl
set_option maxRecDepth 1000000 in
theorem a3_k14 : (Rows.archiveEqualRow.maps == (Tryz.f3.params.toList ++ Rows.archiveEqualSpec.plain.varTypes Tryz.prog).any (Tryz.prog.mapsRec ·)) = true := by kernel_rfl
set_option maxRecDepth 1000000 in
theorem a3_k15 : (Rows.archiveEqualRow.ifaces == (Tryz.f3.params.toList ++ Rows.archiveEqualSpec.plain.varTypes Tryz.prog).any (Tryz.prog.ifacesRec ·)) = true := by kernel_rfl
set_option maxRecDepth 1000000 in
theorem a3_k16 : (Rows.archiveEqualRow.mapsOut == Tryz.prog.mapsAmong Tryz.f3.resultTypes.toList) = true := by kernel_rfl
set_option maxRecDepth 1000000 in
theorem a3_k17 : (Rows.archiveEqualRow.loops == (Tryz.f3.params.toList ++ Rows.archiveEqualSpec.plain.varTypes Tryz.prog).any (Tryz.prog.loopsFrom ·)) = true := by kernel_rfl
set_option maxRecDepth 1000000 in
theorem a3_k18 : (Rows.archiveEqualRow.wideKeys == (Tryz.f3.params.toList ++ Rows.archiveEqualSpec.plain.varTypes Tryz.prog ++ Tryz.f3.resultTypes.toList).any (Tryz.prog.wideKeysFrom ·)) = true := by kernel_rfl
set_option maxRecDepth 1000000 in
theorem a3_k19 : (Rows.archiveEqualSpec.vars.all (Tryz.prog.varReadable ·)) = true := by kernel_rfl
set_option maxRecDepth 1000000 in
theorem a3_k20 : (Tryz.f3.resultTypes.all (fun t => Tryz.prog.readableRec t && decide (t < Tryz.prog.types.size))) = true := by kernel_rfl
set_option maxRecDepth 1000000 in
theorem a3_k21 : (Rows.archiveEqualRow.ifacesOut == Tryz.f3.resultTypes.toList.any (Tryz.prog.ifacesRec ·)) = true := by kernel_rfl
set_option maxRecDepth 1000000 in
theorem a3_k22 : (Rows.archiveEqualRow.loopsOut == Tryz.f3.resultTypes.toList.any (Tryz.prog.loopsFrom ·)) = true := by kernel_rfl
set_option maxRecDepth 1000000 in
theorem a3_k23 : (Rows.archiveEqualRow.plainKeys == Tryz.prog.plainKeys) = true := by kernel_rfl
set_option maxRecDepth 1000000 in
theorem a3_k24 : (Rows.archiveEqualRow.shortTexts.isNone) = true := by kernel_rfl
set_option maxRecDepth 1000000 in
theorem a3_k25 : (Tryz.prog.stopsHeard) = true := by kernel_rfl
set_option maxRecDepth 1000000 in
theorem a3_k26 : (Tryz.prog.mayEnter) = true := by kernel_rfl
set_option maxRecDepth 1000000 in
theorem a3_k27 : (Rows.archiveEqualRow.lifted == Tryz.prog.liftsFinal) = true := by kernel_rfl
set_option maxRecDepth 1000000 in
theorem a3_k28 : (Tryz.prog.make == some Rows.archiveEqualRow.make) = true := by kernel_rfl
set_option maxRecDepth 1000000 in
theorem a3_k29 : (Rows.archiveEqualRow.kinds == (if Rows.archiveEqualRow.domain.isEmpty then [] else Tryz.f3.params.toList.map fun t => match Tryz.prog.underlying t with | some (.int k) => some k | _ => none)) = true := by kernel_rfl
set_option maxRecDepth 1000000 in
theorem a3_k30 : (Rows.archiveEqualRow.pinned == Rows.archiveEqualRow.pinnedBy) = true := by kernel_rfl
set_option maxRecDepth 1000000 in
theorem a3_k31 : (Rows.archiveEqualRow.veiled == (Tryz.f3.params.toList ++ Rows.archiveEqualSpec.plain.varTypes Tryz.prog ++ Tryz.f3.resultTypes.toList).any (Tryz.prog.veiledRec ·)) = true := by kernel_rfl
set_option maxRecDepth 1000000 in
theorem a3_k32 : (Rows.archiveEqualRow.veiledFits Tryz.prog Tryz.f3.params.toList (Tryz.f3.params.toList ++ Rows.archiveEqualSpec.plain.varTypes Tryz.prog ++ Tryz.f3.resultTypes.toList)) = true := by kernel_rfl
end Go.Proofs.YthlfhfliidhelaaGreatDoor
