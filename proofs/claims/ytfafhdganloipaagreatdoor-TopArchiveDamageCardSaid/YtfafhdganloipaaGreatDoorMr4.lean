/- Runs of awake, part 4: the kernel computes each. -/
import Derived.Test.YtfafhdganloipaaGreatDoorMd2
namespace Go.Proofs.YtfafhdganloipaaGreatDoor
open Go.RowKit
open Go.Proofs.YtfafhdganloipaaGreatDoor.Eng
theorem f178_21_run : Memo.Ok Tryz.prog 6 K207 178 f178_21 where
  run := ⟨100000, by kernel_rfl⟩
  names := by kernel_rfl
theorem f26_0_run : Memo.Ok Tryz.prog 6 K178 26 f26_0 where
  run := ⟨100000, by kernel_rfl⟩
  names := by kernel_rfl
theorem f26_1_run : Memo.Ok Tryz.prog 6 K178 26 f26_1 where
  run := ⟨100000, by kernel_rfl⟩
  names := by kernel_rfl
theorem f26_2_run : Memo.Ok Tryz.prog 6 K178 26 f26_2 where
  run := ⟨100000, by kernel_rfl⟩
  names := by kernel_rfl
theorem f26_3_run : Memo.Ok Tryz.prog 6 K178 26 f26_3 where
  run := ⟨100000, by kernel_rfl⟩
  names := by kernel_rfl
theorem f26_4_run : Memo.Ok Tryz.prog 6 K178 26 f26_4 where
  run := ⟨100000, by kernel_rfl⟩
  names := by kernel_rfl
theorem f26_5_run : Memo.Ok Tryz.prog 6 K178 26 f26_5 where
  run := ⟨100000, by kernel_rfl⟩
  names := by kernel_rfl
theorem f26_6_run : Memo.Ok Tryz.prog 6 K178 26 f26_6 where
  run := ⟨100000, by kernel_rfl⟩
  names := by kernel_rfl
theorem f26_7_run : Memo.Ok Tryz.prog 6 K178 26 f26_7 where
  run := ⟨100000, by kernel_rfl⟩
  names := by kernel_rfl
theorem f26_8_run : Memo.Ok Tryz.prog 6 K178 26 f26_8 where
  run := ⟨100000, by kernel_rfl⟩
  names := by kernel_rfl
theorem f26_9_run : Memo.Ok Tryz.prog 6 K178 26 f26_9 where
  run := ⟨100000, by kernel_rfl⟩
  names := by kernel_rfl
theorem f26_10_run : Memo.Ok Tryz.prog 6 K178 26 f26_10 where
  run := ⟨100000, by kernel_rfl⟩
  names := by kernel_rfl
theorem f26_11_run : Memo.Ok Tryz.prog 6 K178 26 f26_11 where
  run := ⟨100000, by kernel_rfl⟩
  names := by kernel_rfl
theorem f26_12_run : Memo.Ok Tryz.prog 6 K178 26 f26_12 where
  run := ⟨100000, by kernel_rfl⟩
  names := by kernel_rfl
theorem f26_13_run : Memo.Ok Tryz.prog 6 K178 26 f26_13 where
  run := ⟨100000, by kernel_rfl⟩
  names := by kernel_rfl
theorem f26_14_run : Memo.Ok Tryz.prog 6 K178 26 f26_14 where
  run := ⟨100000, by kernel_rfl⟩
  names := by kernel_rfl
theorem f26_15_run : Memo.Ok Tryz.prog 6 K178 26 f26_15 where
  run := ⟨100000, by kernel_rfl⟩
  names := by kernel_rfl
theorem f26_16_run : Memo.Ok Tryz.prog 6 K178 26 f26_16 where
  run := ⟨100000, by kernel_rfl⟩
  names := by kernel_rfl
theorem f26_17_run : Memo.Ok Tryz.prog 6 K178 26 f26_17 where
  run := ⟨100000, by kernel_rfl⟩
  names := by kernel_rfl
theorem f26_18_run : Memo.Ok Tryz.prog 6 K178 26 f26_18 where
  run := ⟨100000, by kernel_rfl⟩
  names := by kernel_rfl
theorem f26_19_run : Memo.Ok Tryz.prog 6 K178 26 f26_19 where
  run := ⟨100000, by kernel_rfl⟩
  names := by kernel_rfl
theorem f26_20_run : Memo.Ok Tryz.prog 6 K178 26 f26_20 where
  run := ⟨100000, by kernel_rfl⟩
  names := by kernel_rfl
theorem f26_21_run : Memo.Ok Tryz.prog 6 K178 26 f26_21 where
  run := ⟨100000, by kernel_rfl⟩
  names := by kernel_rfl
end Go.Proofs.YtfafhdganloipaaGreatDoor
