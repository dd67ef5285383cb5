/- A part of the proof about archives. -/
import Derived.Test.YthlfhfliidhelaaGreatDoorMd1
set_option linter.unusedSimpArgs false
set_option linter.unusedVariables false
set_option linter.all false
namespace Go.Proofs.YthlfhfliidhelaaGreatDoor
open Go.RowKit
open Go.Proofs.YthlfhfliidhelaaGreatDoor.Eng
theorem fb193_36_run : Memo.Ok Tryz.prog 11 K0 193 fb193_36.full where
  run := ⟨100000, by kernel_rfl⟩
  names := by kernel_rfl
theorem fb193_37_run : Memo.Ok Tryz.prog 11 K0 193 fb193_37.full where
  run := ⟨100000, by kernel_rfl⟩
  names := by kernel_rfl
end Go.Proofs.YthlfhfliidhelaaGreatDoor
namespace Go.Proofs.YthlfhfliidhelaaGreatDoor
open Go.RowKit
open Go.Proofs.YthlfhfliidhelaaGreatDoor.Eng
theorem fb193_38_run : Memo.Ok Tryz.prog 11 K0 193 fb193_38.full where
  run := ⟨100000, by kernel_rfl⟩
  names := by kernel_rfl
theorem fb193_39_run : Memo.Ok Tryz.prog 11 K0 193 fb193_39.full where
  run := ⟨100000, by kernel_rfl⟩
  names := by kernel_rfl
end Go.Proofs.YthlfhfliidhelaaGreatDoor
namespace Go.Proofs.YthlfhfliidhelaaGreatDoor
open Go.RowKit
open Go.Proofs.YthlfhfliidhelaaGreatDoor.Eng
theorem fb193_40_run : Memo.Ok Tryz.prog 11 K0 193 fb193_40.full where
  run := ⟨100000, by kernel_rfl⟩
  names := by kernel_rfl
theorem fb193_41_run : Memo.Ok Tryz.prog 11 K0 193 fb193_41.full where
  run := ⟨100000, by kernel_rfl⟩
  names := by kernel_rfl
end Go.Proofs.YthlfhfliidhelaaGreatDoor
