/- How the missions are opened and what wakes: the engine at this seat. -/
import Derived.Test.YtclkjjdfdndplaaGreatDoorMd
namespace Go.Proofs.YtclkjjdfdndplaaGreatDoor
open Go.RowKit
open Go.Proofs.YtclkjjdfdndplaaGreatDoor.Eng
theorem f147_0_run : Memo.Ok Tryz.prog 3 K387 147 f147_0 where
  run := ⟨100000, by kernel_rfl⟩
  names := by kernel_rfl
theorem f147_1_run : Memo.Ok Tryz.prog 3 K387 147 f147_1 where
  run := ⟨100000, by kernel_rfl⟩
  names := by kernel_rfl
theorem f118_0_run : Memo.Ok Tryz.prog 3 K147 118 f118_0 where
  run := ⟨100000, by kernel_rfl⟩
  names := by kernel_rfl
theorem f118_1_run : Memo.Ok Tryz.prog 3 K147 118 f118_1 where
  run := ⟨100000, by kernel_rfl⟩
  names := by kernel_rfl
theorem f118_2_run : Memo.Ok Tryz.prog 3 K147 118 f118_2 where
  run := ⟨100000, by kernel_rfl⟩
  names := by kernel_rfl
theorem f118_3_run : Memo.Ok Tryz.prog 3 K147 118 f118_3 where
  run := ⟨100000, by kernel_rfl⟩
  names := by kernel_rfl
end Go.Proofs.YtclkjjdfdndplaaGreatDoor
