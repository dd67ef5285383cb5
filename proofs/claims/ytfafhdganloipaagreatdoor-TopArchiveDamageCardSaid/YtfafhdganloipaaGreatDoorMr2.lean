/- Runs of awake, part 2: the kernel computes each. -/
import Derived.Test.YtfafhdganloipaaGreatDoorMd2
namespace Go.Proofs.YtfafhdganloipaaGreatDoor
open Go.RowKit
open Go.Proofs.YtfafhdganloipaaGreatDoor.Eng
theorem f178_1_run : Memo.Ok Tryz.prog 6 K207 178 f178_1 where
  run := ⟨100000, by kernel_rfl⟩
  names := by kernel_rfl
theorem f178_2_run : Memo.Ok Tryz.prog 6 K207 178 f178_2 where
  run := ⟨100000, by kernel_rfl⟩
  names := by kernel_rfl
theorem f178_3_run : Memo.Ok Tryz.prog 6 K207 178 f178_3 where
  run := ⟨100000, by kernel_rfl⟩
  names := by kernel_rfl
theorem f178_4_run : Memo.Ok Tryz.prog 6 K207 178 f178_4 where
  run := ⟨100000, by kernel_rfl⟩
  names := by kernel_rfl
theorem f178_5_run : Memo.Ok Tryz.prog 6 K207 178 f178_5 where
  run := ⟨100000, by kernel_rfl⟩
  names := by kernel_rfl
theorem f178_6_run : Memo.Ok Tryz.prog 6 K207 178 f178_6 where
  run := ⟨100000, by kernel_rfl⟩
  names := by kernel_rfl
theorem f178_7_run : Memo.Ok Tryz.prog 6 K207 178 f178_7 where
  run := ⟨100000, by kernel_rfl⟩
  names := by kernel_rfl
theorem f178_8_run : Memo.Ok Tryz.prog 6 K207 178 f178_8 where
  run := ⟨100000, by kernel_rfl⟩
  names := by kernel_rfl
theorem f178_9_run : Memo.Ok Tryz.prog 6 K207 178 f178_9 where
  run := ⟨100000, by kernel_rfl⟩
  names := by kernel_rfl
theorem f178_10_run : Memo.Ok Tryz.prog 6 K207 178 f178_10 where
  run := ⟨100000, by kernel_rfl⟩
  names := by kernel_rfl
end Go.Proofs.YtfafhdganloipaaGreatDoor
