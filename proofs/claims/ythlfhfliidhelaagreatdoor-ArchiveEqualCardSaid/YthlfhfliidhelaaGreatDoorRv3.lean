/- ArchiveEqual: the package-level variables that the row names. -/
import Derived.Test.YthlfhfliidhelaaGreatDoorRc3
set_option linter.unusedSimpArgs false
set_option linter.unusedVariables false
set_option linter.all false
namespace Go.Proofs.YthlfhfliidhelaaGreatDoor
open Go.ChangeShapes Go.WideShapes Go.ChangeAt Go.RowKit
theorem a3_k13 : (Rows.archiveEqualRow.named == Tryz.prog.varsNamed (3 : FuncId)) = true := by
  unfold Program.varsNamed
  rw [a3_clo]
  kernel_rfl
end Go.Proofs.YthlfhfliidhelaaGreatDoor
