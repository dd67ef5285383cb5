/- A part of the proof about metrics. -/
import Derived.Test.YtpcbccpobhdokaaGreatDoorMd
set_option linter.unusedSimpArgs false
set_option linter.unusedVariables false
set_option linter.all false
namespace Go.Proofs.YtpcbccpobhdokaaGreatDoor
open Go.RowKit
open Go.Proofs.YtpcbccpobhdokaaGreatDoor.Eng
theorem f159_4_run : Memo.Ok Tryz.prog 6 K186 159 f159_4 where
  run := ⟨100000, by kernel_rfl⟩
  names := by kernel_rfl
theorem f159_5_run : Memo.Ok Tryz.prog 6 K186 159 f159_5 where
  run := ⟨100000, by kernel_rfl⟩
  names := by kernel_rfl
theorem f159_6_run : Memo.Ok Tryz.prog 6 K186 159 f159_6 where
  run := ⟨100000, by kernel_rfl⟩
  names := by kernel_rfl
theorem f159_7_run : Memo.Ok Tryz.prog 6 K186 159 f159_7 where
  run := ⟨100000, by kernel_rfl⟩
  names := by kernel_rfl
theorem f159_8_run : Memo.Ok Tryz.prog 6 K186 159 f159_8 where
  run := ⟨100000, by kernel_rfl⟩
  names := by kernel_rfl
theorem f159_9_run : Memo.Ok Tryz.prog 6 K186 159 f159_9 where
  run := ⟨100000, by kernel_rfl⟩
  names := by kernel_rfl
theorem f159_10_run : Memo.Ok Tryz.prog 6 K186 159 f159_10 where
  run := ⟨100000, by kernel_rfl⟩
  names := by kernel_rfl
end Go.Proofs.YtpcbccpobhdokaaGreatDoor
