/- A part of the proof about archives. -/
import Derived.Test.YthlfhfliidhelaaGreatDoorMd1
set_option linter.unusedSimpArgs false
set_option linter.unusedVariables false
set_option linter.all false
namespace Go.Proofs.YthlfhfliidhelaaGreatDoor
open Go.RowKit
open Go.Proofs.YthlfhfliidhelaaGreatDoor.Eng
theorem fb193_0_run : Memo.Ok Tryz.prog 11 K0 193 fb193_0.full where
  run := ⟨100000, by kernel_rfl⟩
  names := by kernel_rfl
theorem fb193_1_run : Memo.Ok Tryz.prog 11 K0 193 fb193_1.full where
  run := ⟨100000, by kernel_rfl⟩
  names := by kernel_rfl
end Go.Proofs.YthlfhfliidhelaaGreatDoor
namespace Go.Proofs.YthlfhfliidhelaaGreatDoor
open Go.RowKit
open Go.Proofs.YthlfhfliidhelaaGreatDoor.Eng
theorem fb193_2_run : Memo.Ok Tryz.prog 11 K0 193 fb193_2.full where
  run := ⟨100000, by kernel_rfl⟩
  names := by kernel_rfl
theorem fb193_3_run : Memo.Ok Tryz.prog 11 K0 193 fb193_3.full where
  run := ⟨100000, by kernel_rfl⟩
  names := by kernel_rfl
end Go.Proofs.YthlfhfliidhelaaGreatDoor
namespace Go.Proofs.YthlfhfliidhelaaGreatDoor
open Go.RowKit
open Go.Proofs.YthlfhfliidhelaaGreatDoor.Eng
theorem fb193_4_run : Memo.Ok Tryz.prog 11 K0 193 fb193_4.full where
  run := ⟨100000, by kernel_rfl⟩
  names := by kernel_rfl
theorem fb193_5_run : Memo.Ok Tryz.prog 11 K0 193 fb193_5.full where
  run := ⟨100000, by kernel_rfl⟩
  names := by kernel_rfl
end Go.Proofs.YthlfhfliidhelaaGreatDoor
