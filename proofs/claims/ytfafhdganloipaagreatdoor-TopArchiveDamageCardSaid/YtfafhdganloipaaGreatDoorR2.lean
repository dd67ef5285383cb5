/- TopArchiveDamage: the package-level variables that the row names. -/
import Derived.Test.YtfafhdganloipaaGreatDoorRc
namespace Go.Proofs.YtfafhdganloipaaGreatDoor
open Go.ChangeShapes Go.WideShapes Go.ChangeAt Go.RowKit
theorem ta_k13 : (Rows.topArchiveDamageRow.named == Tryz.prog.varsNamed (3 : FuncId)) = true := by
  unfold Program.varsNamed
  rw [ta_clo]
  kernel_rfl
end Go.Proofs.YtfafhdganloipaaGreatDoor
