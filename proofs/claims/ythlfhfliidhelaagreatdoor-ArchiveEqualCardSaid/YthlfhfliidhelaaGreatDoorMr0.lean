/- A part of the proof about archives. -/
import Derived.Test.YthlfhfliidhelaaGreatDoorMd1
set_option linter.unusedSimpArgs false
set_option linter.unusedVariables false
set_option linter.all false
namespace Go.Proofs.YthlfhfliidhelaaGreatDoor
open Go.RowKit
open Go.Proofs.YthlfhfliidhelaaGreatDoor.Eng
theorem fa381_0_run : Memo.Ok Tryz.prog 11 K0 381 fa381_0 where
  run := ⟨100000, by kernel_rfl⟩
  names := by kernel_rfl
theorem fa381_1_run : Memo.Ok Tryz.prog 11 K0 381 fa381_1 where
  run := ⟨100000, by kernel_rfl⟩
  names := by kernel_rfl
theorem fa444_0_run : Memo.Ok Tryz.prog 11 KZ0 444 fa444_0 where
  run := ⟨100000, by kernel_rfl⟩
  names := by kernel_rfl
theorem fa444_1_run : Memo.Ok Tryz.prog 11 KZ0 444 fa444_1 where
  run := ⟨100000, by kernel_rfl⟩
  names := by kernel_rfl
theorem fa444_2_run : Memo.Ok Tryz.prog 11 KZ0 444 fa444_2 where
  run := ⟨100000, by kernel_rfl⟩
  names := by kernel_rfl
theorem fa444_3_run : Memo.Ok Tryz.prog 11 KZ0 444 fa444_3 where
  run := ⟨100000, by kernel_rfl⟩
  names := by kernel_rfl
theorem fa444_4_run : Memo.Ok Tryz.prog 11 KZ0 444 fa444_4 where
  run := ⟨100000, by kernel_rfl⟩
  names := by kernel_rfl
theorem fa29_0_run : Memo.Ok Tryz.prog 11 KZ1 29 fa29_0 where
  run := ⟨100000, by kernel_rfl⟩
  names := by kernel_rfl
theorem fa29_1_run : Memo.Ok Tryz.prog 11 KZ1 29 fa29_1 where
  run := ⟨100000, by kernel_rfl⟩
  names := by kernel_rfl
theorem fa546_0_run : Memo.Ok Tryz.prog 11 KZ2 546 fa546_0 where
  run := ⟨100000, by kernel_rfl⟩
  names := by kernel_rfl
theorem fa465_0_run : Memo.Ok Tryz.prog 11 KZ3 465 fa465_0 where
  run := ⟨100000, by kernel_rfl⟩
  names := by kernel_rfl
theorem fa374_0_run : Memo.Ok Tryz.prog 11 KZ4 374 fa374_0 where
  run := ⟨100000, by kernel_rfl⟩
  names := by kernel_rfl
theorem fa632_0_run : Memo.Ok Tryz.prog 11 KZ5 632 fa632_0 where
  run := ⟨100000, by kernel_rfl⟩
  names := by kernel_rfl
theorem fa632_1_run : Memo.Ok Tryz.prog 11 KZ5 632 fa632_1 where
  run := ⟨100000, by kernel_rfl⟩
  names := by kernel_rfl
theorem fa632_2_run : Memo.Ok Tryz.prog 11 KZ5 632 fa632_2 where
  run := ⟨100000, by kernel_rfl⟩
  names := by kernel_rfl
theorem fa632_3_run : Memo.Ok Tryz.prog 11 KZ5 632 fa632_3 where
  run := ⟨100000, by kernel_rfl⟩
  names := by kernel_rfl
theorem fa632_4_run : Memo.Ok Tryz.prog 11 KZ5 632 fa632_4 where
  run := ⟨100000, by kernel_rfl⟩
  names := by kernel_rfl
theorem fa632_5_run : Memo.Ok Tryz.prog 11 KZ5 632 fa632_5 where
  run := ⟨100000, by kernel_rfl⟩
  names := by kernel_rfl
theorem fa632_6_run : Memo.Ok Tryz.prog 11 KZ5 632 fa632_6 where
  run := ⟨100000, by kernel_rfl⟩
  names := by kernel_rfl
theorem fa632_7_run : Memo.Ok Tryz.prog 11 KZ5 632 fa632_7 where
  run := ⟨100000, by kernel_rfl⟩
  names := by kernel_rfl
theorem fa632_8_run : Memo.Ok Tryz.prog 11 KZ5 632 fa632_8 where
  run := ⟨100000, by kernel_rfl⟩
  names := by kernel_rfl
theorem fa632_9_run : Memo.Ok Tryz.prog 11 KZ5 632 fa632_9 where
  run := ⟨100000, by kernel_rfl⟩
  names := by kernel_rfl
theorem fa274_0_run : Memo.Ok Tryz.prog 11 KZ6 274 fa274_0 where
  run := ⟨100000, by kernel_rfl⟩
  names := by kernel_rfl
end Go.Proofs.YthlfhfliidhelaaGreatDoor
namespace Go.Proofs.YthlfhfliidhelaaGreatDoor
open Go.RowKit
open Go.Proofs.YthlfhfliidhelaaGreatDoor.Eng
theorem fa274_1_run : Memo.Ok Tryz.prog 11 KZ6 274 fa274_1 where
  run := ⟨100000, by kernel_rfl⟩
  names := by kernel_rfl
theorem fa248_0_run : Memo.Ok Tryz.prog 11 KZ7 248 fa248_0 where
  run := ⟨100000, by kernel_rfl⟩
  names := by kernel_rfl
theorem fa248_1_run : Memo.Ok Tryz.prog 11 KZ7 248 fa248_1 where
  run := ⟨100000, by kernel_rfl⟩
  names := by kernel_rfl
theorem fa248_2_run : Memo.Ok Tryz.prog 11 KZ7 248 fa248_2 where
  run := ⟨100000, by kernel_rfl⟩
  names := by kernel_rfl
theorem fa248_3_run : Memo.Ok Tryz.prog 11 KZ7 248 fa248_3 where
  run := ⟨100000, by kernel_rfl⟩
  names := by kernel_rfl
theorem fa248_4_run : Memo.Ok Tryz.prog 11 KZ7 248 fa248_4 where
  run := ⟨100000, by kernel_rfl⟩
  names := by kernel_rfl
theorem fa248_5_run : Memo.Ok Tryz.prog 11 KZ7 248 fa248_5 where
  run := ⟨100000, by kernel_rfl⟩
  names := by kernel_rfl
theorem fa248_6_run : Memo.Ok Tryz.prog 11 KZ7 248 fa248_6 where
  run := ⟨100000, by kernel_rfl⟩
  names := by kernel_rfl
theorem fa248_7_run : Memo.Ok Tryz.prog 11 KZ7 248 fa248_7 where
  run := ⟨100000, by kernel_rfl⟩
  names := by kernel_rfl
theorem fa248_8_run : Memo.Ok Tryz.prog 11 KZ7 248 fa248_8 where
  run := ⟨100000, by kernel_rfl⟩
  names := by kernel_rfl
theorem fa248_9_run : Memo.Ok Tryz.prog 11 KZ7 248 fa248_9 where
  run := ⟨100000, by kernel_rfl⟩
  names := by kernel_rfl
theorem fa248_10_run : Memo.Ok Tryz.prog 11 KZ7 248 fa248_10 where
  run := ⟨100000, by kernel_rfl⟩
  names := by kernel_rfl
theorem fb179_0_run : Memo.Ok Tryz.prog 11 K0 179 fb179_0 where
  run := ⟨100000, by kernel_rfl⟩
  names := by kernel_rfl
theorem fb179_1_run : Memo.Ok Tryz.prog 11 K0 179 fb179_1 where
  run := ⟨100000, by kernel_rfl⟩
  names := by kernel_rfl
theorem fb179_2_run : Memo.Ok Tryz.prog 11 K0 179 fb179_2 where
  run := ⟨100000, by kernel_rfl⟩
  names := by kernel_rfl
theorem fb294_0_run : Memo.Ok Tryz.prog 11 K0 294 fb294_0 where
  run := ⟨100000, by kernel_rfl⟩
  names := by kernel_rfl
end Go.Proofs.YthlfhfliidhelaaGreatDoor
