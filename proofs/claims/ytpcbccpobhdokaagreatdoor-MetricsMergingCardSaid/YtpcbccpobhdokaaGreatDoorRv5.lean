/- MetricsMerging: the package-level variables that the row names. -/
import Derived.Test.YtpcbccpobhdokaaGreatDoorRc5
set_option linter.unusedSimpArgs false
set_option linter.unusedVariables false
set_option linter.all false
namespace Go.Proofs.YtpcbccpobhdokaaGreatDoor
open Go.ChangeShapes Go.WideShapes Go.ChangeAt Go.RowKit
theorem m5_k13 : (Rows.metricsMergingRow.named == Tryz.prog.varsNamed (5 : FuncId)) = true := by
  unfold Program.varsNamed
  rw [m5_clo]
  kernel_rfl
end Go.Proofs.YtpcbccpobhdokaaGreatDoor
