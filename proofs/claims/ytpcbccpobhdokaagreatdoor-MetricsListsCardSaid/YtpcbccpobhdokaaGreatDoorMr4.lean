/- A part of the proof about metrics. -/
import Derived.Test.YtpcbccpobhdokaaGreatDoorMd
set_option linter.unusedSimpArgs false
set_option linter.unusedVariables false
set_option linter.all false
namespace Go.Proofs.YtpcbccpobhdokaaGreatDoor
open Go.RowKit
open Go.Proofs.YtpcbccpobhdokaaGreatDoor.Eng
theorem f49_0_run : Memo.Ok Tryz.prog 6 K159 49 f49_0 where
  run := ⟨100000, by kernel_rfl⟩
  names := by kernel_rfl
end Go.Proofs.YtpcbccpobhdokaaGreatDoor
namespace Go.Proofs.YtpcbccpobhdokaaGreatDoor
open Go.RowKit
open Go.Proofs.YtpcbccpobhdokaaGreatDoor.Eng
theorem f49_1_run : Memo.Ok Tryz.prog 6 K159 49 f49_1 where
  run := ⟨100000, by kernel_rfl⟩
  names := by kernel_rfl
theorem f49_2_run : Memo.Ok Tryz.prog 6 K159 49 f49_2 where
  run := ⟨100000, by kernel_rfl⟩
  names := by kernel_rfl
theorem f49_3_run : Memo.Ok Tryz.prog 6 K159 49 f49_3 where
  run := ⟨100000, by kernel_rfl⟩
  names := by kernel_rfl
theorem f49_4_run : Memo.Ok Tryz.prog 6 K159 49 f49_4 where
  run := ⟨100000, by kernel_rfl⟩
  names := by kernel_rfl
end Go.Proofs.YtpcbccpobhdokaaGreatDoor
namespace Go.Proofs.YtpcbccpobhdokaaGreatDoor
open Go.RowKit
open Go.Proofs.YtpcbccpobhdokaaGreatDoor.Eng
theorem f49_5_run : Memo.Ok Tryz.prog 6 K159 49 f49_5 where
  run := ⟨100000, by kernel_rfl⟩
  names := by kernel_rfl
theorem f49_6_run : Memo.Ok Tryz.prog 6 K159 49 f49_6 where
  run := ⟨100000, by kernel_rfl⟩
  names := by kernel_rfl
theorem f49_7_run : Memo.Ok Tryz.prog 6 K159 49 f49_7 where
  run := ⟨100000, by kernel_rfl⟩
  names := by kernel_rfl
theorem f49_8_run : Memo.Ok Tryz.prog 6 K159 49 f49_8 where
  run := ⟨100000, by kernel_rfl⟩
  names := by kernel_rfl
theorem f49_9_run : Memo.Ok Tryz.prog 6 K159 49 f49_9 where
  run := ⟨100000, by kernel_rfl⟩
  names := by kernel_rfl
theorem f49_10_run : Memo.Ok Tryz.prog 6 K159 49 f49_10 where
  run := ⟨100000, by kernel_rfl⟩
  names := by kernel_rfl
end Go.Proofs.YtpcbccpobhdokaaGreatDoor
