/- How the missions are opened and what wakes: the engine at this seat. -/
import Derived.Test.YtclkjjdfdndplaaGreatDoorMd
namespace Go.Proofs.YtclkjjdfdndplaaGreatDoor
open Go.RowKit
open Go.Proofs.YtclkjjdfdndplaaGreatDoor.Eng
theorem f181_0_run : Memo.Ok Tryz.prog 3 K0 181 f181_0 where
  run := ⟨100000, by kernel_rfl⟩
  names := by kernel_rfl
theorem f181_1_run : Memo.Ok Tryz.prog 3 K0 181 f181_1 where
  run := ⟨100000, by kernel_rfl⟩
  names := by kernel_rfl
theorem f199_0_run : Memo.Ok Tryz.prog 3 K181 199 f199_0 where
  run := ⟨100000, by kernel_rfl⟩
  names := by kernel_rfl
theorem f199_1_run : Memo.Ok Tryz.prog 3 K181 199 f199_1 where
  run := ⟨100000, by kernel_rfl⟩
  names := by kernel_rfl
theorem f199_2_run : Memo.Ok Tryz.prog 3 K181 199 f199_2 where
  run := ⟨100000, by kernel_rfl⟩
  names := by kernel_rfl
theorem f199_3_run : Memo.Ok Tryz.prog 3 K181 199 f199_3 where
  run := ⟨100000, by kernel_rfl⟩
  names := by kernel_rfl
theorem f199_4_run : Memo.Ok Tryz.prog 3 K181 199 f199_4 where
  run := ⟨100000, by kernel_rfl⟩
  names := by kernel_rfl
theorem f214_0_run : Memo.Ok Tryz.prog 3 K199 214 f214_0 where
  run := ⟨100000, by kernel_rfl⟩
  names := by kernel_rfl
theorem f214_1_run : Memo.Ok Tryz.prog 3 K199 214 f214_1 where
  run := ⟨100000, by kernel_rfl⟩
  names := by kernel_rfl
theorem f292_0_run : Memo.Ok Tryz.prog 3 K214 292 f292_0 where
  run := ⟨100000, by kernel_rfl⟩
  names := by kernel_rfl
end Go.Proofs.YtclkjjdfdndplaaGreatDoor
