/- MetricsLists: the package-level variables that the row names. -/
import Derived.Test.YtpcbccpobhdokaaGreatDoorRc3
set_option linter.unusedSimpArgs false
set_option linter.unusedVariables false
set_option linter.all false
namespace Go.Proofs.YtpcbccpobhdokaaGreatDoor
open Go.ChangeShapes Go.WideShapes Go.ChangeAt Go.RowKit
theorem m3_k13 : (Rows.metricsListsRow.named == Tryz.prog.varsNamed (3 : FuncId)) = true := by
  unfold Program.varsNamed
  rw [m3_clo]
  kernel_rfl
end Go.Proofs.YtpcbccpobhdokaaGreatDoor
