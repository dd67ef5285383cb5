/- How the missions are opened and what wakes: the engine at this seat. -/
import Derived.Test.YtclkjjdfdndplaaGreatDoorMd
namespace Go.Proofs.YtclkjjdfdndplaaGreatDoor
open Go.RowKit
open Go.Proofs.YtclkjjdfdndplaaGreatDoor.Eng
theorem f227_0_run : Memo.Ok Tryz.prog 3 K292 227 f227_0 where
  run := ⟨100000, by kernel_rfl⟩
  names := by kernel_rfl
theorem f174_0_run : Memo.Ok Tryz.prog 3 K227 174 f174_0 where
  run := ⟨100000, by kernel_rfl⟩
  names := by kernel_rfl
theorem f387_0_run : Memo.Ok Tryz.prog 3 K174 387 f387_0 where
  run := ⟨100000, by kernel_rfl⟩
  names := by kernel_rfl
theorem f387_1_run : Memo.Ok Tryz.prog 3 K174 387 f387_1 where
  run := ⟨100000, by kernel_rfl⟩
  names := by kernel_rfl
theorem f387_2_run : Memo.Ok Tryz.prog 3 K174 387 f387_2 where
  run := ⟨100000, by kernel_rfl⟩
  names := by kernel_rfl
theorem f387_3_run : Memo.Ok Tryz.prog 3 K174 387 f387_3 where
  run := ⟨100000, by kernel_rfl⟩
  names := by kernel_rfl
theorem f387_4_run : Memo.Ok Tryz.prog 3 K174 387 f387_4 where
  run := ⟨100000, by kernel_rfl⟩
  names := by kernel_rfl
theorem f387_5_run : Memo.Ok Tryz.prog 3 K174 387 f387_5 where
  run := ⟨100000, by kernel_rfl⟩
  names := by kernel_rfl
theorem f387_6_run : Memo.Ok Tryz.prog 3 K174 387 f387_6 where
  run := ⟨100000, by kernel_rfl⟩
  names := by kernel_rfl
theorem f387_7_run : Memo.Ok Tryz.prog 3 K174 387 f387_7 where
  run := ⟨100000, by kernel_rfl⟩
  names := by kernel_rfl
theorem f387_8_run : Memo.Ok Tryz.prog 3 K174 387 f387_8 where
  run := ⟨100000, by kernel_rfl⟩
  names := by kernel_rfl
theorem f387_9_run : Memo.Ok Tryz.prog 3 K174 387 f387_9 where
  run := ⟨100000, by kernel_rfl⟩
  names := by kernel_rfl
end Go.Proofs.YtclkjjdfdndplaaGreatDoor
namespace Go.Proofs.YtclkjjdfdndplaaGreatDoor
open Go.RowKit
open Go.Proofs.YtclkjjdfdndplaaGreatDoor.Eng
theorem f33_0_run : Memo.Ok Tryz.prog 3 K118 33 f33_0 where
  run := ⟨100000, by kernel_rfl⟩
  names := by kernel_rfl
end Go.Proofs.YtclkjjdfdndplaaGreatDoor
namespace Go.Proofs.YtclkjjdfdndplaaGreatDoor
open Go.RowKit
open Go.Proofs.YtclkjjdfdndplaaGreatDoor.Eng
theorem f33_1_run : Memo.Ok Tryz.prog 3 K118 33 f33_1 where
  run := ⟨100000, by kernel_rfl⟩
  names := by kernel_rfl
theorem f33_2_run : Memo.Ok Tryz.prog 3 K118 33 f33_2 where
  run := ⟨100000, by kernel_rfl⟩
  names := by kernel_rfl
theorem f33_3_run : Memo.Ok Tryz.prog 3 K118 33 f33_3 where
  run := ⟨100000, by kernel_rfl⟩
  names := by kernel_rfl
theorem f33_4_run : Memo.Ok Tryz.prog 3 K118 33 f33_4 where
  run := ⟨100000, by kernel_rfl⟩
  names := by kernel_rfl
end Go.Proofs.YtclkjjdfdndplaaGreatDoor
namespace Go.Proofs.YtclkjjdfdndplaaGreatDoor
open Go.RowKit
open Go.Proofs.YtclkjjdfdndplaaGreatDoor.Eng
theorem f33_5_run : Memo.Ok Tryz.prog 3 K118 33 f33_5 where
  run := ⟨100000, by kernel_rfl⟩
  names := by kernel_rfl
theorem f33_6_run : Memo.Ok Tryz.prog 3 K118 33 f33_6 where
  run := ⟨100000, by kernel_rfl⟩
  names := by kernel_rfl
theorem f33_7_run : Memo.Ok Tryz.prog 3 K118 33 f33_7 where
  run := ⟨100000, by kernel_rfl⟩
  names := by kernel_rfl
theorem f33_8_run : Memo.Ok Tryz.prog 3 K118 33 f33_8 where
  run := ⟨100000, by kernel_rfl⟩
  names := by kernel_rfl
theorem f33_9_run : Memo.Ok Tryz.prog 3 K118 33 f33_9 where
  run := ⟨100000, by kernel_rfl⟩
  names := by kernel_rfl
theorem f33_10_run : Memo.Ok Tryz.prog 3 K118 33 f33_10 where
  run := ⟨100000, by kernel_rfl⟩
  names := by kernel_rfl
end Go.Proofs.YtclkjjdfdndplaaGreatDoor
