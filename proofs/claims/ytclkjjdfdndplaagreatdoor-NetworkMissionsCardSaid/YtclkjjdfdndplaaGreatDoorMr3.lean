/- How the missions are opened and what wakes: the engine at this seat. -/
import Derived.Test.YtclkjjdfdndplaaGreatDoorMd
namespace Go.Proofs.YtclkjjdfdndplaaGreatDoor
open Go.RowKit
open Go.Proofs.YtclkjjdfdndplaaGreatDoor.Eng
theorem f118_4_run : Memo.Ok Tryz.prog 3 K147 118 f118_4 where
  run := ⟨100000, by kernel_rfl⟩
  names := by kernel_rfl
theorem f118_5_run : Memo.Ok Tryz.prog 3 K147 118 f118_5 where
  run := ⟨100000, by kernel_rfl⟩
  names := by kernel_rfl
theorem f118_6_run : Memo.Ok Tryz.prog 3 K147 118 f118_6 where
  run := ⟨100000, by kernel_rfl⟩
  names := by kernel_rfl
theorem f118_7_run : Memo.Ok Tryz.prog 3 K147 118 f118_7 where
  run := ⟨100000, by kernel_rfl⟩
  names := by kernel_rfl
theorem f118_8_run : Memo.Ok Tryz.prog 3 K147 118 f118_8 where
  run := ⟨100000, by kernel_rfl⟩
  names := by kernel_rfl
theorem f118_9_run : Memo.Ok Tryz.prog 3 K147 118 f118_9 where
  run := ⟨100000, by kernel_rfl⟩
  names := by kernel_rfl
theorem f118_10_run : Memo.Ok Tryz.prog 3 K147 118 f118_10 where
  run := ⟨100000, by kernel_rfl⟩
  names := by kernel_rfl
end Go.Proofs.YtclkjjdfdndplaaGreatDoor
