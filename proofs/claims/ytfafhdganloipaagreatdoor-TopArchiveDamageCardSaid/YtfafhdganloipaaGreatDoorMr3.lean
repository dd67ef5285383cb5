/- Runs of awake, part 3: the kernel computes each. -/
import Derived.Test.YtfafhdganloipaaGreatDoorMd2
namespace Go.Proofs.YtfafhdganloipaaGreatDoor
open Go.RowKit
open Go.Proofs.YtfafhdganloipaaGreatDoor.Eng
theorem f178_11_run : Memo.Ok Tryz.prog 6 K207 178 f178_11 where
  run := ⟨100000, by kernel_rfl⟩
  names := by kernel_rfl
theorem f178_12_run : Memo.Ok Tryz.prog 6 K207 178 f178_12 where
  run := ⟨100000, by kernel_rfl⟩
  names := by kernel_rfl
theorem f178_13_run : Memo.Ok Tryz.prog 6 K207 178 f178_13 where
  run := ⟨100000, by kernel_rfl⟩
  names := by kernel_rfl
theorem f178_14_run : Memo.Ok Tryz.prog 6 K207 178 f178_14 where
  run := ⟨100000, by kernel_rfl⟩
  names := by kernel_rfl
theorem f178_15_run : Memo.Ok Tryz.prog 6 K207 178 f178_15 where
  run := ⟨100000, by kernel_rfl⟩
  names := by kernel_rfl
theorem f178_16_run : Memo.Ok Tryz.prog 6 K207 178 f178_16 where
  run := ⟨100000, by kernel_rfl⟩
  names := by kernel_rfl
theorem f178_17_run : Memo.Ok Tryz.prog 6 K207 178 f178_17 where
  run := ⟨100000, by kernel_rfl⟩
  names := by kernel_rfl
theorem f178_18_run : Memo.Ok Tryz.prog 6 K207 178 f178_18 where
  run := ⟨100000, by kernel_rfl⟩
  names := by kernel_rfl
theorem f178_19_run : Memo.Ok Tryz.prog 6 K207 178 f178_19 where
  run := ⟨100000, by kernel_rfl⟩
  names := by kernel_rfl
theorem f178_20_run : Memo.Ok Tryz.prog 6 K207 178 f178_20 where
  run := ⟨100000, by kernel_rfl⟩
  names := by kernel_rfl
end Go.Proofs.YtfafhdganloipaaGreatDoor
