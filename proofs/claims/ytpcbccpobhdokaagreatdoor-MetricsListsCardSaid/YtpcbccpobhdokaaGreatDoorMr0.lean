/- A part of the proof about metrics. -/
import Derived.Test.YtpcbccpobhdokaaGreatDoorMd
set_option linter.unusedSimpArgs false
set_option linter.unusedVariables false
set_option linter.all false
namespace Go.Proofs.YtpcbccpobhdokaaGreatDoor
open Go.RowKit
open Go.Proofs.YtpcbccpobhdokaaGreatDoor.Eng
theorem f239_0_run : Memo.Ok Tryz.prog 6 K0 239 f239_0 where
  run := ⟨100000, by kernel_rfl⟩
  names := by kernel_rfl
theorem f239_1_run : Memo.Ok Tryz.prog 6 K0 239 f239_1 where
  run := ⟨100000, by kernel_rfl⟩
  names := by kernel_rfl
theorem f260_0_run : Memo.Ok Tryz.prog 6 K239 260 f260_0 where
  run := ⟨100000, by kernel_rfl⟩
  names := by kernel_rfl
theorem f260_1_run : Memo.Ok Tryz.prog 6 K239 260 f260_1 where
  run := ⟨100000, by kernel_rfl⟩
  names := by kernel_rfl
theorem f260_2_run : Memo.Ok Tryz.prog 6 K239 260 f260_2 where
  run := ⟨100000, by kernel_rfl⟩
  names := by kernel_rfl
theorem f260_3_run : Memo.Ok Tryz.prog 6 K239 260 f260_3 where
  run := ⟨100000, by kernel_rfl⟩
  names := by kernel_rfl
theorem f260_4_run : Memo.Ok Tryz.prog 6 K239 260 f260_4 where
  run := ⟨100000, by kernel_rfl⟩
  names := by kernel_rfl
theorem f274_0_run : Memo.Ok Tryz.prog 6 K260 274 f274_0 where
  run := ⟨100000, by kernel_rfl⟩
  names := by kernel_rfl
theorem f274_1_run : Memo.Ok Tryz.prog 6 K260 274 f274_1 where
  run := ⟨100000, by kernel_rfl⟩
  names := by kernel_rfl
theorem f352_0_run : Memo.Ok Tryz.prog 6 K274 352 f352_0 where
  run := ⟨100000, by kernel_rfl⟩
  names := by kernel_rfl
end Go.Proofs.YtpcbccpobhdokaaGreatDoor
