/- A part of the proof about archives. -/
import Derived.Test.YthlfhfliidhelaaGreatDoorMd1
set_option linter.unusedSimpArgs false
set_option linter.unusedVariables false
set_option linter.all false
namespace Go.Proofs.YthlfhfliidhelaaGreatDoor
open Go.RowKit
open Go.Proofs.YthlfhfliidhelaaGreatDoor.Eng
theorem fb193_18_run : Memo.Ok Tryz.prog 11 K0 193 fb193_18.full where
  run := ⟨100000, by kernel_rfl⟩
  names := by kernel_rfl
theorem fb193_19_run : Memo.Ok Tryz.prog 11 K0 193 fb193_19.full where
  run := ⟨100000, by kernel_rfl⟩
  names := by kernel_rfl
end Go.Proofs.YthlfhfliidhelaaGreatDoor
namespace Go.Proofs.YthlfhfliidhelaaGreatDoor
open Go.RowKit
open Go.Proofs.YthlfhfliidhelaaGreatDoor.Eng
theorem fb193_20_run : Memo.Ok Tryz.prog 11 K0 193 fb193_20.full where
  run := ⟨100000, by kernel_rfl⟩
  names := by kernel_rfl
theorem fb193_21_run : Memo.Ok Tryz.prog 11 K0 193 fb193_21.full where
  run := ⟨100000, by kernel_rfl⟩
  names := by kernel_rfl
end Go.Proofs.YthlfhfliidhelaaGreatDoor
namespace Go.Proofs.YthlfhfliidhelaaGreatDoor
open Go.RowKit
open Go.Proofs.YthlfhfliidhelaaGreatDoor.Eng
theorem fb193_22_run : Memo.Ok Tryz.prog 11 K0 193 fb193_22.full where
  run := ⟨100000, by kernel_rfl⟩
  names := by kernel_rfl
theorem fb193_23_run : Memo.Ok Tryz.prog 11 K0 193 fb193_23.full where
  run := ⟨100000, by kernel_rfl⟩
  names := by kernel_rfl
end Go.Proofs.YthlfhfliidhelaaGreatDoor
