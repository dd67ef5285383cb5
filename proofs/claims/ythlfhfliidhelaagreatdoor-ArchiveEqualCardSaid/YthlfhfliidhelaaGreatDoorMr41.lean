/- A part of the proof about archives. -/
import Derived.Test.YthlfhfliidhelaaGreatDoorMd1
set_option linter.unusedSimpArgs false
set_option linter.unusedVariables false
set_option linter.all false
namespace Go.Proofs.YthlfhfliidhelaaGreatDoor
open Go.RowKit
open Go.Proofs.YthlfhfliidhelaaGreatDoor.Eng
theorem fb100_0_run : Memo.Ok Tryz.prog 11 KZ18 100 fb100_0 where
  run := ⟨100000, by kernel_rfl⟩
  names := by kernel_rfl
end Go.Proofs.YthlfhfliidhelaaGreatDoor
namespace Go.Proofs.YthlfhfliidhelaaGreatDoor
open Go.RowKit
open Go.Proofs.YthlfhfliidhelaaGreatDoor.Eng
theorem fb102_0_run : Memo.Ok Tryz.prog 11 KZ19 102 fb102_0 where
  run := ⟨100000, by kernel_rfl⟩
  names := by kernel_rfl
theorem ft40_0_run : Memo.Ok Tryz.prog 11 KZ20 40 ft40_0 where
  run := ⟨100000, by kernel_rfl⟩
  names := by kernel_rfl
end Go.Proofs.YthlfhfliidhelaaGreatDoor
namespace Go.Proofs.YthlfhfliidhelaaGreatDoor
open Go.RowKit
open Go.Proofs.YthlfhfliidhelaaGreatDoor.Eng
theorem ft40_1_run : Memo.Ok Tryz.prog 11 KZ20 40 ft40_1 where
  run := ⟨100000, by kernel_rfl⟩
  names := by kernel_rfl
theorem ft40_2_run : Memo.Ok Tryz.prog 11 KZ20 40 ft40_2 where
  run := ⟨100000, by kernel_rfl⟩
  names := by kernel_rfl
theorem ft40_3_run : Memo.Ok Tryz.prog 11 KZ20 40 ft40_3 where
  run := ⟨100000, by kernel_rfl⟩
  names := by kernel_rfl
theorem ft40_4_run : Memo.Ok Tryz.prog 11 KZ20 40 ft40_4 where
  run := ⟨100000, by kernel_rfl⟩
  names := by kernel_rfl
theorem ft40_5_run : Memo.Ok Tryz.prog 11 KZ20 40 ft40_5 where
  run := ⟨100000, by kernel_rfl⟩
  names := by kernel_rfl
theorem ft40_6_run : Memo.Ok Tryz.prog 11 KZ20 40 ft40_6 where
  run := ⟨100000, by kernel_rfl⟩
  names := by kernel_rfl
theorem ft40_7_run : Memo.Ok Tryz.prog 11 KZ20 40 ft40_7 where
  run := ⟨100000, by kernel_rfl⟩
  names := by kernel_rfl
theorem ft40_8_run : Memo.Ok Tryz.prog 11 KZ20 40 ft40_8 where
  run := ⟨100000, by kernel_rfl⟩
  names := by kernel_rfl
theorem ft40_9_run : Memo.Ok Tryz.prog 11 KZ20 40 ft40_9 where
  run := ⟨100000, by kernel_rfl⟩
  names := by kernel_rfl
theorem ft40_10_run : Memo.Ok Tryz.prog 11 KZ20 40 ft40_10 where
  run := ⟨100000, by kernel_rfl⟩
  names := by kernel_rfl
theorem ft19_0_run : Memo.Ok Tryz.prog 11 K0 19 ft19_0 where
  run := ⟨100000, by kernel_rfl⟩
  names := by kernel_rfl
end Go.Proofs.YthlfhfliidhelaaGreatDoor
