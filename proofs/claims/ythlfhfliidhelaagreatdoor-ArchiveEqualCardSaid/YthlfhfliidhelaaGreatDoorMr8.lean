/- A part of the proof about archives. -/
import Derived.Test.YthlfhfliidhelaaGreatDoorMd1
set_option linter.unusedSimpArgs false
set_option linter.unusedVariables false
set_option linter.all false
namespace Go.Proofs.YthlfhfliidhelaaGreatDoor
open Go.RowKit
open Go.Proofs.YthlfhfliidhelaaGreatDoor.Eng
theorem fb193_6_run : Memo.Ok Tryz.prog 11 K0 193 fb193_6.full where
  run := ⟨100000, by kernel_rfl⟩
  names := by kernel_rfl
theorem fb193_7_run : Memo.Ok Tryz.prog 11 K0 193 fb193_7.full where
  run := ⟨100000, by kernel_rfl⟩
  names := by kernel_rfl
end Go.Proofs.YthlfhfliidhelaaGreatDoor
namespace Go.Proofs.YthlfhfliidhelaaGreatDoor
open Go.RowKit
open Go.Proofs.YthlfhfliidhelaaGreatDoor.Eng
theorem fb193_8_run : Memo.Ok Tryz.prog 11 K0 193 fb193_8.full where
  run := ⟨100000, by kernel_rfl⟩
  names := by kernel_rfl
theorem fb193_9_run : Memo.Ok Tryz.prog 11 K0 193 fb193_9.full where
  run := ⟨100000, by kernel_rfl⟩
  names := by kernel_rfl
end Go.Proofs.YthlfhfliidhelaaGreatDoor
namespace Go.Proofs.YthlfhfliidhelaaGreatDoor
open Go.RowKit
open Go.Proofs.YthlfhfliidhelaaGreatDoor.Eng
theorem fb193_10_run : Memo.Ok Tryz.prog 11 K0 193 fb193_10.full where
  run := ⟨100000, by kernel_rfl⟩
  names := by kernel_rfl
theorem fb193_11_run : Memo.Ok Tryz.prog 11 K0 193 fb193_11.full where
  run := ⟨100000, by kernel_rfl⟩
  names := by kernel_rfl
end Go.Proofs.YthlfhfliidhelaaGreatDoor
