/- MetricsTexts: the listed variables are what the program's text lays (the row's tie, fact by fact). -/
import Derived.Test.YtpcbccpobhdokaaGreatDoorRows
import Derived.LaidByTextLater
import Derived.SevenTiedAt
set_option linter.unusedSimpArgs false
set_option linter.unusedVariables false
set_option linter.all false
namespace Go.Proofs.YtpcbccpobhdokaaGreatDoor
open Go
def laid4 : List (String × DataW Unit) := [("unicode/utf8.acceptRanges", Rows.laid_unicode_utf8_acceptRanges), ("internal/strconv.uint64pow10", Rows.laid_internal_strconv_uint64pow10), ("math/bits.deBruijn32tab", Rows.laid_math_bits_deBruijn32tab), ("math/bits.deBruijn64tab", Rows.laid_math_bits_deBruijn64tab)]
theorem pin_first : Tryz.pinned.checked.prog.pinnedFits "unicode/utf8.first" = true := by kernel_rfl
theorem no_unsafe : Tryz.pinned.checked.prog.headLifts.contains "ownunsafe" = false := by kernel_rfl
theorem t_fits : Tryz.pinned.checked.prog.listedFits (("unicode/utf8.first", Rows.laid_unicode_utf8_first) :: laid4) = true := by
  unfold Program.listedFits
  rw [no_unsafe]
  kernel_rfl
theorem t_w1 : Tryz.prog.worded (varsWordLater true) = true := by kernel_rfl
theorem t_w2 : Tryz.prog.worded (varsWordLater !true) = false := by kernel_rfl
theorem t_root : Tryz.prog.worded rootWordLater = true := by kernel_rfl
theorem t_kinds : laid4.map (fun x => Tryz.prog.kindOfLater x.1) = ([.data, .data, .data, .data] : List LaidKind).map some := by kernel_rfl
theorem t_named : (Tryz.prog.funcNamed "gosem.cut.vars").isSome = true := by kernel_rfl
theorem t_vars : varsNamedLaterB Tryz.prog (varsId Tryz.prog) laid4 = true := by kernel_rfl
theorem t_done (os : Os) (tape : Tape) : varsDone Tryz.prog 400 (varsId Tryz.prog) os tape = true := by kernel_rfl
theorem t_run (os : Os) (tape : Tape) : (DataW.laidRun Tryz.prog (varsWorld Tryz.prog 400 (varsId Tryz.prog) os tape).memory 8 (laid4.map (·.1))).map (·.1) = some laid4 := by kernel_rfl
theorem t_rows (os : Os) (tape : Tape) : (DataW.laidRun Tryz.prog (varsWorld Tryz.prog 400 (varsId Tryz.prog) os tape).memory 8 (laid4.map (·.1))).map (fun x => decide x.2.Nodup && laidRowsB Tryz.prog (varsWorld Tryz.prog 400 (varsId Tryz.prog) os tape).memory x.2) = some true := by kernel_rfl
theorem t_tie : Tryz.prog.laidByTextLater laid4 [.data, .data, .data, .data] true :=
  Program.laidByTextLater_by_run 400 8 t_w1 t_w2 t_root t_kinds t_named t_vars t_done t_run t_rows
end Go.Proofs.YtpcbccpobhdokaaGreatDoor
