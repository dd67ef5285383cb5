/- MetricsMany: the package-level variables that the row names. -/
import Derived.Test.YtpcbccpobhdokaaGreatDoorRc4
set_option linter.unusedSimpArgs false
set_option linter.unusedVariables false
set_option linter.all false
namespace Go.Proofs.YtpcbccpobhdokaaGreatDoor
open Go.ChangeShapes Go.WideShapes Go.ChangeAt Go.RowKit
theorem m4_k13 : (Rows.metricsManyRow.named == Tryz.prog.varsNamed (4 : FuncId)) = true := by
  unfold Program.varsNamed
  rw [m4_clo]
  kernel_rfl
end Go.Proofs.YtpcbccpobhdokaaGreatDoor
