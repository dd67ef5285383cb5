/- A part of the proof about metrics. -/
import Derived.Test.YtpcbccpobhdokaaGreatDoorMd
set_option linter.unusedSimpArgs false
set_option linter.unusedVariables false
set_option linter.all false
namespace Go.Proofs.YtpcbccpobhdokaaGreatDoor
open Go.RowKit
open Go.Proofs.YtpcbccpobhdokaaGreatDoor.Eng
theorem f186_0_run : Memo.Ok Tryz.prog 6 K446 186 f186_0 where
  run := ⟨100000, by kernel_rfl⟩
  names := by kernel_rfl
theorem f186_1_run : Memo.Ok Tryz.prog 6 K446 186 f186_1 where
  run := ⟨100000, by kernel_rfl⟩
  names := by kernel_rfl
theorem f159_0_run : Memo.Ok Tryz.prog 6 K186 159 f159_0 where
  run := ⟨100000, by kernel_rfl⟩
  names := by kernel_rfl
theorem f159_1_run : Memo.Ok Tryz.prog 6 K186 159 f159_1 where
  run := ⟨100000, by kernel_rfl⟩
  names := by kernel_rfl
theorem f159_2_run : Memo.Ok Tryz.prog 6 K186 159 f159_2 where
  run := ⟨100000, by kernel_rfl⟩
  names := by kernel_rfl
theorem f159_3_run : Memo.Ok Tryz.prog 6 K186 159 f159_3 where
  run := ⟨100000, by kernel_rfl⟩
  names := by kernel_rfl
end Go.Proofs.YtpcbccpobhdokaaGreatDoor
