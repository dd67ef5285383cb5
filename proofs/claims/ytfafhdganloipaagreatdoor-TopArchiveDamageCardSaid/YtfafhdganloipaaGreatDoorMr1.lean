/- Runs of awake, part 1: the kernel computes each. -/
import Derived.Test.YtfafhdganloipaaGreatDoorMd2
namespace Go.Proofs.YtfafhdganloipaaGreatDoor
open Go.RowKit
open Go.Proofs.YtfafhdganloipaaGreatDoor.Eng
theorem f88_1_run : Memo.Ok Tryz.prog 6 K371 88 f88_1 where
  run := ⟨100000, by kernel_rfl⟩
  names := by kernel_rfl
theorem f88_2_run : Memo.Ok Tryz.prog 6 K371 88 f88_2 where
  run := ⟨100000, by kernel_rfl⟩
  names := by kernel_rfl
theorem f88_3_run : Memo.Ok Tryz.prog 6 K371 88 f88_3 where
  run := ⟨100000, by kernel_rfl⟩
  names := by kernel_rfl
theorem f479_0_run : Memo.Ok Tryz.prog 6 K88 479 f479_0 where
  run := ⟨100000, by kernel_rfl⟩
  names := by kernel_rfl
theorem f479_1_run : Memo.Ok Tryz.prog 6 K88 479 f479_1 where
  run := ⟨100000, by kernel_rfl⟩
  names := by kernel_rfl
theorem f393_0_run : Memo.Ok Tryz.prog 6 K479 393 f393_0 where
  run := ⟨100000, by kernel_rfl⟩
  names := by kernel_rfl
theorem f393_1_run : Memo.Ok Tryz.prog 6 K479 393 f393_1 where
  run := ⟨100000, by kernel_rfl⟩
  names := by kernel_rfl
theorem f296_0_run : Memo.Ok Tryz.prog 6 K393 296 f296_0 where
  run := ⟨100000, by kernel_rfl⟩
  names := by kernel_rfl
theorem f296_1_run : Memo.Ok Tryz.prog 6 K393 296 f296_1 where
  run := ⟨100000, by kernel_rfl⟩
  names := by kernel_rfl
theorem f578_0_run : Memo.Ok Tryz.prog 6 K296 578 f578_0 where
  run := ⟨100000, by kernel_rfl⟩
  names := by kernel_rfl
theorem f578_1_run : Memo.Ok Tryz.prog 6 K296 578 f578_1 where
  run := ⟨100000, by kernel_rfl⟩
  names := by kernel_rfl
theorem f578_2_run : Memo.Ok Tryz.prog 6 K296 578 f578_2 where
  run := ⟨100000, by kernel_rfl⟩
  names := by kernel_rfl
theorem f578_3_run : Memo.Ok Tryz.prog 6 K296 578 f578_3 where
  run := ⟨100000, by kernel_rfl⟩
  names := by kernel_rfl
theorem f578_4_run : Memo.Ok Tryz.prog 6 K296 578 f578_4 where
  run := ⟨100000, by kernel_rfl⟩
  names := by kernel_rfl
theorem f578_5_run : Memo.Ok Tryz.prog 6 K296 578 f578_5 where
  run := ⟨100000, by kernel_rfl⟩
  names := by kernel_rfl
theorem f578_6_run : Memo.Ok Tryz.prog 6 K296 578 f578_6 where
  run := ⟨100000, by kernel_rfl⟩
  names := by kernel_rfl
theorem f578_7_run : Memo.Ok Tryz.prog 6 K296 578 f578_7 where
  run := ⟨100000, by kernel_rfl⟩
  names := by kernel_rfl
theorem f578_8_run : Memo.Ok Tryz.prog 6 K296 578 f578_8 where
  run := ⟨100000, by kernel_rfl⟩
  names := by kernel_rfl
theorem f578_9_run : Memo.Ok Tryz.prog 6 K296 578 f578_9 where
  run := ⟨100000, by kernel_rfl⟩
  names := by kernel_rfl
theorem f578_10_run : Memo.Ok Tryz.prog 6 K296 578 f578_10 where
  run := ⟨100000, by kernel_rfl⟩
  names := by kernel_rfl
theorem f578_11_run : Memo.Ok Tryz.prog 6 K296 578 f578_11 where
  run := ⟨100000, by kernel_rfl⟩
  names := by kernel_rfl
theorem f578_12_run : Memo.Ok Tryz.prog 6 K296 578 f578_12 where
  run := ⟨100000, by kernel_rfl⟩
  names := by kernel_rfl
theorem f578_13_run : Memo.Ok Tryz.prog 6 K296 578 f578_13 where
  run := ⟨100000, by kernel_rfl⟩
  names := by kernel_rfl
theorem f578_14_run : Memo.Ok Tryz.prog 6 K296 578 f578_14 where
  run := ⟨100000, by kernel_rfl⟩
  names := by kernel_rfl
theorem f578_15_run : Memo.Ok Tryz.prog 6 K296 578 f578_15 where
  run := ⟨100000, by kernel_rfl⟩
  names := by kernel_rfl
theorem f578_16_run : Memo.Ok Tryz.prog 6 K296 578 f578_16 where
  run := ⟨100000, by kernel_rfl⟩
  names := by kernel_rfl
theorem f578_17_run : Memo.Ok Tryz.prog 6 K296 578 f578_17 where
  run := ⟨100000, by kernel_rfl⟩
  names := by kernel_rfl
theorem f578_18_run : Memo.Ok Tryz.prog 6 K296 578 f578_18 where
  run := ⟨100000, by kernel_rfl⟩
  names := by kernel_rfl
theorem f578_19_run : Memo.Ok Tryz.prog 6 K296 578 f578_19 where
  run := ⟨100000, by kernel_rfl⟩
  names := by kernel_rfl
theorem f207_0_run : Memo.Ok Tryz.prog 6 K578 207 f207_0 where
  run := ⟨100000, by kernel_rfl⟩
  names := by kernel_rfl
theorem f207_1_run : Memo.Ok Tryz.prog 6 K578 207 f207_1 where
  run := ⟨100000, by kernel_rfl⟩
  names := by kernel_rfl
theorem f207_2_run : Memo.Ok Tryz.prog 6 K578 207 f207_2 where
  run := ⟨100000, by kernel_rfl⟩
  names := by kernel_rfl
theorem f207_3_run : Memo.Ok Tryz.prog 6 K578 207 f207_3 where
  run := ⟨100000, by kernel_rfl⟩
  names := by kernel_rfl
theorem f178_0_run : Memo.Ok Tryz.prog 6 K207 178 f178_0 where
  run := ⟨100000, by kernel_rfl⟩
  names := by kernel_rfl
end Go.Proofs.YtfafhdganloipaaGreatDoor
