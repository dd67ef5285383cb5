/- A part of the proof about archives. -/
import Derived.Test.YthlfhfliidhelaaGreatDoorMd1
set_option linter.unusedSimpArgs false
set_option linter.unusedVariables false
set_option linter.all false
namespace Go.Proofs.YthlfhfliidhelaaGreatDoor
open Go.RowKit
open Go.Proofs.YthlfhfliidhelaaGreatDoor.Eng
theorem fb294_1_run : Memo.Ok Tryz.prog 11 K0 294 fb294_1 where
  run := ⟨100000, by kernel_rfl⟩
  names := by kernel_rfl
theorem fb294_2_run : Memo.Ok Tryz.prog 11 K0 294 fb294_2 where
  run := ⟨100000, by kernel_rfl⟩
  names := by kernel_rfl
theorem fb188_0_run : Memo.Ok Tryz.prog 11 KZ9 188 fb188_0 where
  run := ⟨100000, by kernel_rfl⟩
  names := by kernel_rfl
theorem fb188_1_run : Memo.Ok Tryz.prog 11 KZ9 188 fb188_1 where
  run := ⟨100000, by kernel_rfl⟩
  names := by kernel_rfl
end Go.Proofs.YthlfhfliidhelaaGreatDoor
namespace Go.Proofs.YthlfhfliidhelaaGreatDoor
open Go.RowKit
open Go.Proofs.YthlfhfliidhelaaGreatDoor.Eng
theorem fb298_0_run : Memo.Ok Tryz.prog 11 K0 298 fb298_0 where
  run := ⟨100000, by kernel_rfl⟩
  names := by kernel_rfl
theorem fb184_0_run : Memo.Ok Tryz.prog 11 K0 184 fb184_0 where
  run := ⟨100000, by kernel_rfl⟩
  names := by kernel_rfl
theorem fb184_1_run : Memo.Ok Tryz.prog 11 K0 184 fb184_1 where
  run := ⟨100000, by kernel_rfl⟩
  names := by kernel_rfl
end Go.Proofs.YthlfhfliidhelaaGreatDoor
namespace Go.Proofs.YthlfhfliidhelaaGreatDoor
open Go.RowKit
open Go.Proofs.YthlfhfliidhelaaGreatDoor.Eng
theorem fb185_0_run : Memo.Ok Tryz.prog 11 K0 185 fb185_0 where
  run := ⟨100000, by kernel_rfl⟩
  names := by kernel_rfl
theorem fb185_1_run : Memo.Ok Tryz.prog 11 K0 185 fb185_1 where
  run := ⟨100000, by kernel_rfl⟩
  names := by kernel_rfl
end Go.Proofs.YthlfhfliidhelaaGreatDoor
