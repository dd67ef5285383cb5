/- MetricsTexts: the package-level variables that the row names. -/
import Derived.Test.YtpcbccpobhdokaaGreatDoorRc6
set_option linter.unusedSimpArgs false
set_option linter.unusedVariables false
set_option linter.all false
namespace Go.Proofs.YtpcbccpobhdokaaGreatDoor
open Go.ChangeShapes Go.WideShapes Go.ChangeAt Go.RowKit
theorem m6_k13 : (Rows.metricsTextsRow.named == Tryz.prog.varsNamed (6 : FuncId)) = true := by
  unfold Program.varsNamed
  rw [m6_clo]
  kernel_rfl
end Go.Proofs.YtpcbccpobhdokaaGreatDoor
