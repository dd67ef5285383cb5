/- A part of the proof about archives. -/
import Derived.Test.YthlfhfliidhelaaGreatDoorMd1
set_option linter.unusedSimpArgs false
set_option linter.unusedVariables false
set_option linter.all false
namespace Go.Proofs.YthlfhfliidhelaaGreatDoor
open Go.RowKit
open Go.Proofs.YthlfhfliidhelaaGreatDoor.Eng
theorem fb193_30_run : Memo.Ok Tryz.prog 11 K0 193 fb193_30.full where
  run := ⟨100000, by kernel_rfl⟩
  names := by kernel_rfl
theorem fb193_31_run : Memo.Ok Tryz.prog 11 K0 193 fb193_31.full where
  run := ⟨100000, by kernel_rfl⟩
  names := by kernel_rfl
end Go.Proofs.YthlfhfliidhelaaGreatDoor
namespace Go.Proofs.YthlfhfliidhelaaGreatDoor
open Go.RowKit
open Go.Proofs.YthlfhfliidhelaaGreatDoor.Eng
theorem fb193_32_run : Memo.Ok Tryz.prog 11 K0 193 fb193_32.full where
  run := ⟨100000, by kernel_rfl⟩
  names := by kernel_rfl
theorem fb193_33_run : Memo.Ok Tryz.prog 11 K0 193 fb193_33.full where
  run := ⟨100000, by kernel_rfl⟩
  names := by kernel_rfl
end Go.Proofs.YthlfhfliidhelaaGreatDoor
namespace Go.Proofs.YthlfhfliidhelaaGreatDoor
open Go.RowKit
open Go.Proofs.YthlfhfliidhelaaGreatDoor.Eng
theorem fb193_34_run : Memo.Ok Tryz.prog 11 K0 193 fb193_34.full where
  run := ⟨100000, by kernel_rfl⟩
  names := by kernel_rfl
theorem fb193_35_run : Memo.Ok Tryz.prog 11 K0 193 fb193_35.full where
  run := ⟨100000, by kernel_rfl⟩
  names := by kernel_rfl
end Go.Proofs.YthlfhfliidhelaaGreatDoor
