/- ArchiveEqual: the listed variables are what the program's text lays (the row's tie, fact by fact). -/
import Derived.Test.YthlfhfliidhelaaGreatDoorRows
import Derived.LaidByTextLater
import Derived.SevenTiedAt
namespace Go.Proofs.YthlfhfliidhelaaGreatDoor
open Go
def laid8 : List (String × DataW Unit) := [("unicode/utf8.acceptRanges", Rows.laid_unicode_utf8_acceptRanges), ("internal/strconv.uint64pow10", Rows.laid_internal_strconv_uint64pow10), ("math/bits.deBruijn32tab", Rows.laid_math_bits_deBruijn32tab), ("math/bits.deBruijn64tab", Rows.laid_math_bits_deBruijn64tab), ("strconv.ErrSyntax", Rows.laid_strconv_ErrSyntax), ("strconv.ErrRange", Rows.laid_strconv_ErrRange), ("strings.asciiSpace", Rows.laid_strings_asciiSpace), ("unicode.White_Space", Rows.laid_unicode_White_Space)]
theorem pin_first : Tryz.pinned.checked.prog.pinnedFits "unicode/utf8.first" = true := by kernel_rfl
theorem no_unsafe : Tryz.pinned.checked.prog.headLifts.contains "ownunsafe" = false := by kernel_rfl
theorem t_fits : Tryz.pinned.checked.prog.listedFits (("unicode/utf8.first", Rows.laid_unicode_utf8_first) :: laid8) = true := by
  unfold Program.listedFits
  rw [no_unsafe]
  kernel_rfl
theorem t_w1 : Tryz.prog.worded (varsWordLater true) = true := by kernel_rfl
theorem t_w2 : Tryz.prog.worded (varsWordLater !true) = false := by kernel_rfl
theorem t_root : Tryz.prog.worded rootWordLater = true := by kernel_rfl
theorem t_kinds : laid8.map (fun x => Tryz.prog.kindOfLater x.1) = ([.data, .data, .data, .data, .sentinel, .sentinel, .data, .listed] : List LaidKind).map some := by kernel_rfl
theorem t_id : Tryz.prog.funcNamed "gosem.cut.vars" = some 794 := by kernel_rfl
theorem t_vars : varsNamedLaterB Tryz.prog 794 laid8 = true := by kernel_rfl
theorem t_done (os : Os) (tape : Tape) : varsDone Tryz.prog 400 794 os tape = true := by kernel_rfl
theorem t_run (os : Os) (tape : Tape) : (DataW.laidRun Tryz.prog (varsWorld Tryz.prog 400 794 os tape).memory 8 (laid8.map (·.1))).map (·.1) = some laid8 := by kernel_rfl
theorem t_rows (os : Os) (tape : Tape) : (DataW.laidRun Tryz.prog (varsWorld Tryz.prog 400 794 os tape).memory 8 (laid8.map (·.1))).map (fun x => decide x.2.Nodup && laidRowsB Tryz.prog (varsWorld Tryz.prog 400 794 os tape).memory x.2) = some true := by kernel_rfl
theorem t_tie : Tryz.prog.laidByTextLater laid8 [.data, .data, .data, .data, .sentinel, .sentinel, .data, .listed] true :=
  Program.laidByTextLater_of_run 794 400 8 t_w1 t_w2 t_root t_kinds t_id t_vars t_done t_run t_rows
theorem archiveEqual_tied : Rows.archiveEqualRow.laidByTextAt .later Tryz.pinned [.pinned, .data, .data, .data, .data, .sentinel, .sentinel, .data, .listed] true :=
  OpenClaim.laidByTextAt_pinned rfl rfl t_tie rfl rfl rfl rfl (fun y hy _e => by
    simp only [Rows.archiveEqualRow, List.zip_cons_cons, List.zip_nil_right, List.mem_cons, List.mem_nil_iff, or_false] at hy
    rcases hy with rfl | rfl | rfl | rfl | rfl | rfl | rfl | rfl | rfl
    · exact ⟨pin_first, by kernel_rfl⟩
    · cases _e
    · cases _e
    · cases _e
    · cases _e
    · cases _e
    · cases _e
    · cases _e
    · cases _e) t_fits
end Go.Proofs.YthlfhfliidhelaaGreatDoor
