/- A part of the proof about archives. -/
import Derived.Test.YthlfhfliidhelaaGreatDoorMd1
set_option linter.unusedSimpArgs false
set_option linter.unusedVariables false
set_option linter.all false
namespace Go.Proofs.YthlfhfliidhelaaGreatDoor
open Go.RowKit
open Go.Proofs.YthlfhfliidhelaaGreatDoor.Eng
theorem ft20_0_run : Memo.Ok Tryz.prog 11 K0 20 ft20_0 where
  run := ⟨100000, by kernel_rfl⟩
  names := by kernel_rfl
theorem ft29_0_run : Memo.Ok Tryz.prog 11 K0 29 ft29_0 where
  run := ⟨100000, by kernel_rfl⟩
  names := by kernel_rfl
theorem ft29_1_run : Memo.Ok Tryz.prog 11 K0 29 ft29_1 where
  run := ⟨100000, by kernel_rfl⟩
  names := by kernel_rfl
theorem ft29_2_run : Memo.Ok Tryz.prog 11 K0 29 ft29_2 where
  run := ⟨100000, by kernel_rfl⟩
  names := by kernel_rfl
theorem ft29_3_run : Memo.Ok Tryz.prog 11 K0 29 ft29_3 where
  run := ⟨100000, by kernel_rfl⟩
  names := by kernel_rfl
theorem ft29_4_run : Memo.Ok Tryz.prog 11 K0 29 ft29_4 where
  run := ⟨100000, by kernel_rfl⟩
  names := by kernel_rfl
theorem ft52_0_run : Memo.Ok Tryz.prog 11 KZ24 52 ft52_0 where
  run := ⟨100000, by kernel_rfl⟩
  names := by kernel_rfl
end Go.Proofs.YthlfhfliidhelaaGreatDoor
namespace Go.Proofs.YthlfhfliidhelaaGreatDoor
open Go.RowKit
open Go.Proofs.YthlfhfliidhelaaGreatDoor.Eng
theorem ft53_0_run : Memo.Ok Tryz.prog 11 K0 53 ft53_0 where
  run := ⟨100000, by kernel_rfl⟩
  names := by kernel_rfl
theorem ft53_1_run : Memo.Ok Tryz.prog 11 K0 53 ft53_1 where
  run := ⟨100000, by kernel_rfl⟩
  names := by kernel_rfl
theorem ft53_2_run : Memo.Ok Tryz.prog 11 K0 53 ft53_2 where
  run := ⟨100000, by kernel_rfl⟩
  names := by kernel_rfl
theorem ft25_0_run : Memo.Ok Tryz.prog 11 K0 25 ft25_0 where
  run := ⟨100000, by kernel_rfl⟩
  names := by kernel_rfl
theorem ft25_1_run : Memo.Ok Tryz.prog 11 K0 25 ft25_1 where
  run := ⟨100000, by kernel_rfl⟩
  names := by kernel_rfl
theorem ft27_0_run : Memo.Ok Tryz.prog 11 K0 27 ft27_0 where
  run := ⟨100000, by kernel_rfl⟩
  names := by kernel_rfl
theorem ft27_1_run : Memo.Ok Tryz.prog 11 K0 27 ft27_1 where
  run := ⟨100000, by kernel_rfl⟩
  names := by kernel_rfl
end Go.Proofs.YthlfhfliidhelaaGreatDoor
namespace Go.Proofs.YthlfhfliidhelaaGreatDoor
open Go.RowKit
open Go.Proofs.YthlfhfliidhelaaGreatDoor.Eng
theorem ft67_0_run : Memo.Ok Tryz.prog 11 K0 67 ft67_0 where
  run := ⟨100000, by kernel_rfl⟩
  names := by kernel_rfl
theorem ft67_1_run : Memo.Ok Tryz.prog 11 K0 67 ft67_1 where
  run := ⟨100000, by kernel_rfl⟩
  names := by kernel_rfl
end Go.Proofs.YthlfhfliidhelaaGreatDoor
