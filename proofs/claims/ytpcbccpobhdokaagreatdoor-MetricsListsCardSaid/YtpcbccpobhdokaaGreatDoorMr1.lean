/- A part of the proof about metrics. -/
import Derived.Test.YtpcbccpobhdokaaGreatDoorMd
set_option linter.unusedSimpArgs false
set_option linter.unusedVariables false
set_option linter.all false
namespace Go.Proofs.YtpcbccpobhdokaaGreatDoor
open Go.RowKit
open Go.Proofs.YtpcbccpobhdokaaGreatDoor.Eng
theorem f287_0_run : Memo.Ok Tryz.prog 6 K352 287 f287_0 where
  run := ⟨100000, by kernel_rfl⟩
  names := by kernel_rfl
theorem f232_0_run : Memo.Ok Tryz.prog 6 K287 232 f232_0 where
  run := ⟨100000, by kernel_rfl⟩
  names := by kernel_rfl
theorem f446_0_run : Memo.Ok Tryz.prog 6 K232 446 f446_0 where
  run := ⟨100000, by kernel_rfl⟩
  names := by kernel_rfl
theorem f446_1_run : Memo.Ok Tryz.prog 6 K232 446 f446_1 where
  run := ⟨100000, by kernel_rfl⟩
  names := by kernel_rfl
theorem f446_2_run : Memo.Ok Tryz.prog 6 K232 446 f446_2 where
  run := ⟨100000, by kernel_rfl⟩
  names := by kernel_rfl
theorem f446_3_run : Memo.Ok Tryz.prog 6 K232 446 f446_3 where
  run := ⟨100000, by kernel_rfl⟩
  names := by kernel_rfl
theorem f446_4_run : Memo.Ok Tryz.prog 6 K232 446 f446_4 where
  run := ⟨100000, by kernel_rfl⟩
  names := by kernel_rfl
theorem f446_5_run : Memo.Ok Tryz.prog 6 K232 446 f446_5 where
  run := ⟨100000, by kernel_rfl⟩
  names := by kernel_rfl
theorem f446_6_run : Memo.Ok Tryz.prog 6 K232 446 f446_6 where
  run := ⟨100000, by kernel_rfl⟩
  names := by kernel_rfl
theorem f446_7_run : Memo.Ok Tryz.prog 6 K232 446 f446_7 where
  run := ⟨100000, by kernel_rfl⟩
  names := by kernel_rfl
theorem f446_8_run : Memo.Ok Tryz.prog 6 K232 446 f446_8 where
  run := ⟨100000, by kernel_rfl⟩
  names := by kernel_rfl
theorem f446_9_run : Memo.Ok Tryz.prog 6 K232 446 f446_9 where
  run := ⟨100000, by kernel_rfl⟩
  names := by kernel_rfl
end Go.Proofs.YtpcbccpobhdokaaGreatDoor
