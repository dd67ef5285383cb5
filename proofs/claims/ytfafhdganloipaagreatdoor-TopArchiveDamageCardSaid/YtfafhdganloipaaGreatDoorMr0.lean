/- Runs of awake, part 0: the kernel computes each. -/
import Derived.Test.YtfafhdganloipaaGreatDoorMd2
namespace Go.Proofs.YtfafhdganloipaaGreatDoor
open Go.RowKit
open Go.Proofs.YtfafhdganloipaaGreatDoor.Eng
theorem f303_0_run : Memo.Ok Tryz.prog 6 K0 303 f303_0 where
  run := ⟨100000, by kernel_rfl⟩
  names := by kernel_rfl
theorem f303_1_run : Memo.Ok Tryz.prog 6 K0 303 f303_1 where
  run := ⟨100000, by kernel_rfl⟩
  names := by kernel_rfl
theorem f303_2_run : Memo.Ok Tryz.prog 6 K0 303 f303_2 where
  run := ⟨100000, by kernel_rfl⟩
  names := by kernel_rfl
theorem f303_3_run : Memo.Ok Tryz.prog 6 K0 303 f303_3 where
  run := ⟨100000, by kernel_rfl⟩
  names := by kernel_rfl
theorem f371_0_run : Memo.Ok Tryz.prog 6 K303 371 f371_0 where
  run := ⟨100000, by kernel_rfl⟩
  names := by kernel_rfl
theorem f371_1_run : Memo.Ok Tryz.prog 6 K303 371 f371_1 where
  run := ⟨100000, by kernel_rfl⟩
  names := by kernel_rfl
theorem f371_2_run : Memo.Ok Tryz.prog 6 K303 371 f371_2 where
  run := ⟨100000, by kernel_rfl⟩
  names := by kernel_rfl
theorem f371_3_run : Memo.Ok Tryz.prog 6 K303 371 f371_3 where
  run := ⟨100000, by kernel_rfl⟩
  names := by kernel_rfl
theorem f371_4_run : Memo.Ok Tryz.prog 6 K303 371 f371_4 where
  run := ⟨100000, by kernel_rfl⟩
  names := by kernel_rfl
theorem f371_5_run : Memo.Ok Tryz.prog 6 K303 371 f371_5 where
  run := ⟨100000, by kernel_rfl⟩
  names := by kernel_rfl
theorem f371_6_run : Memo.Ok Tryz.prog 6 K303 371 f371_6 where
  run := ⟨100000, by kernel_rfl⟩
  names := by kernel_rfl
theorem f371_7_run : Memo.Ok Tryz.prog 6 K303 371 f371_7 where
  run := ⟨100000, by kernel_rfl⟩
  names := by kernel_rfl
theorem f371_8_run : Memo.Ok Tryz.prog 6 K303 371 f371_8 where
  run := ⟨100000, by kernel_rfl⟩
  names := by kernel_rfl
theorem f371_9_run : Memo.Ok Tryz.prog 6 K303 371 f371_9 where
  run := ⟨100000, by kernel_rfl⟩
  names := by kernel_rfl
theorem f88_0_run : Memo.Ok Tryz.prog 6 K371 88 f88_0 where
  run := ⟨100000, by kernel_rfl⟩
  names := by kernel_rfl
end Go.Proofs.YtfafhdganloipaaGreatDoor
