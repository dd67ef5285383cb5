/- A part of the proof about archives. -/
import Derived.Test.YthlfhfliidhelaaGreatDoorMd1
set_option linter.unusedSimpArgs false
set_option linter.unusedVariables false
set_option linter.all false
namespace Go.Proofs.YthlfhfliidhelaaGreatDoor
open Go.RowKit
open Go.Proofs.YthlfhfliidhelaaGreatDoor.Eng
theorem fb193_68_run : Memo.Ok Tryz.prog 11 K0 193 fb193_68.full where
  run := ⟨100000, by kernel_rfl⟩
  names := by kernel_rfl
theorem fb193_69_run : Memo.Ok Tryz.prog 11 K0 193 fb193_69.full where
  run := ⟨100000, by kernel_rfl⟩
  names := by kernel_rfl
theorem fb193_70_run : Memo.Ok Tryz.prog 11 K0 193 fb193_70.full where
  run := ⟨100000, by kernel_rfl⟩
  names := by kernel_rfl
theorem fb193_71_run : Memo.Ok Tryz.prog 11 K0 193 fb193_71.full where
  run := ⟨100000, by kernel_rfl⟩
  names := by kernel_rfl
theorem fb194_0_run : Memo.Ok Tryz.prog 11 K0 194 fb194_0.full where
  run := ⟨100000, by kernel_rfl⟩
  names := by kernel_rfl
theorem fb194_1_run : Memo.Ok Tryz.prog 11 K0 194 fb194_1.full where
  run := ⟨100000, by kernel_rfl⟩
  names := by kernel_rfl
theorem fb194_2_run : Memo.Ok Tryz.prog 11 K0 194 fb194_2.full where
  run := ⟨100000, by kernel_rfl⟩
  names := by kernel_rfl
theorem fb194_3_run : Memo.Ok Tryz.prog 11 K0 194 fb194_3.full where
  run := ⟨100000, by kernel_rfl⟩
  names := by kernel_rfl
theorem fb194_4_run : Memo.Ok Tryz.prog 11 K0 194 fb194_4.full where
  run := ⟨100000, by kernel_rfl⟩
  names := by kernel_rfl
theorem fb194_5_run : Memo.Ok Tryz.prog 11 K0 194 fb194_5.full where
  run := ⟨100000, by kernel_rfl⟩
  names := by kernel_rfl
theorem fb194_6_run : Memo.Ok Tryz.prog 11 K0 194 fb194_6.full where
  run := ⟨100000, by kernel_rfl⟩
  names := by kernel_rfl
theorem fb194_7_run : Memo.Ok Tryz.prog 11 K0 194 fb194_7.full where
  run := ⟨100000, by kernel_rfl⟩
  names := by kernel_rfl
theorem fb194_8_run : Memo.Ok Tryz.prog 11 K0 194 fb194_8.full where
  run := ⟨100000, by kernel_rfl⟩
  names := by kernel_rfl
theorem fb194_9_run : Memo.Ok Tryz.prog 11 K0 194 fb194_9.full where
  run := ⟨100000, by kernel_rfl⟩
  names := by kernel_rfl
theorem fb194_10_run : Memo.Ok Tryz.prog 11 K0 194 fb194_10.full where
  run := ⟨100000, by kernel_rfl⟩
  names := by kernel_rfl
theorem fb194_11_run : Memo.Ok Tryz.prog 11 K0 194 fb194_11.full where
  run := ⟨100000, by kernel_rfl⟩
  names := by kernel_rfl
theorem fb194_12_run : Memo.Ok Tryz.prog 11 K0 194 fb194_12.full where
  run := ⟨100000, by kernel_rfl⟩
  names := by kernel_rfl
theorem fb194_13_run : Memo.Ok Tryz.prog 11 K0 194 fb194_13.full where
  run := ⟨100000, by kernel_rfl⟩
  names := by kernel_rfl
theorem fb194_14_run : Memo.Ok Tryz.prog 11 K0 194 fb194_14.full where
  run := ⟨100000, by kernel_rfl⟩
  names := by kernel_rfl
theorem fb194_15_run : Memo.Ok Tryz.prog 11 K0 194 fb194_15.full where
  run := ⟨100000, by kernel_rfl⟩
  names := by kernel_rfl
theorem fb194_16_run : Memo.Ok Tryz.prog 11 K0 194 fb194_16.full where
  run := ⟨100000, by kernel_rfl⟩
  names := by kernel_rfl
theorem fb194_17_run : Memo.Ok Tryz.prog 11 K0 194 fb194_17.full where
  run := ⟨100000, by kernel_rfl⟩
  names := by kernel_rfl
theorem fb194_18_run : Memo.Ok Tryz.prog 11 K0 194 fb194_18.full where
  run := ⟨100000, by kernel_rfl⟩
  names := by kernel_rfl
theorem fb194_19_run : Memo.Ok Tryz.prog 11 K0 194 fb194_19.full where
  run := ⟨100000, by kernel_rfl⟩
  names := by kernel_rfl
theorem fb194_20_run : Memo.Ok Tryz.prog 11 K0 194 fb194_20.full where
  run := ⟨100000, by kernel_rfl⟩
  names := by kernel_rfl
theorem fb194_21_run : Memo.Ok Tryz.prog 11 K0 194 fb194_21.full where
  run := ⟨100000, by kernel_rfl⟩
  names := by kernel_rfl
theorem fb194_22_run : Memo.Ok Tryz.prog 11 K0 194 fb194_22.full where
  run := ⟨100000, by kernel_rfl⟩
  names := by kernel_rfl
theorem fb194_23_run : Memo.Ok Tryz.prog 11 K0 194 fb194_23.full where
  run := ⟨100000, by kernel_rfl⟩
  names := by kernel_rfl
theorem fb194_24_run : Memo.Ok Tryz.prog 11 K0 194 fb194_24.full where
  run := ⟨100000, by kernel_rfl⟩
  names := by kernel_rfl
theorem fb194_25_run : Memo.Ok Tryz.prog 11 K0 194 fb194_25.full where
  run := ⟨100000, by kernel_rfl⟩
  names := by kernel_rfl
theorem fb194_26_run : Memo.Ok Tryz.prog 11 K0 194 fb194_26.full where
  run := ⟨100000, by kernel_rfl⟩
  names := by kernel_rfl
theorem fb194_27_run : Memo.Ok Tryz.prog 11 K0 194 fb194_27.full where
  run := ⟨100000, by kernel_rfl⟩
  names := by kernel_rfl
theorem fb194_28_run : Memo.Ok Tryz.prog 11 K0 194 fb194_28.full where
  run := ⟨100000, by kernel_rfl⟩
  names := by kernel_rfl
theorem fb194_29_run : Memo.Ok Tryz.prog 11 K0 194 fb194_29.full where
  run := ⟨100000, by kernel_rfl⟩
  names := by kernel_rfl
theorem fb194_30_run : Memo.Ok Tryz.prog 11 K0 194 fb194_30.full where
  run := ⟨100000, by kernel_rfl⟩
  names := by kernel_rfl
theorem fb194_31_run : Memo.Ok Tryz.prog 11 K0 194 fb194_31.full where
  run := ⟨100000, by kernel_rfl⟩
  names := by kernel_rfl
theorem fb194_32_run : Memo.Ok Tryz.prog 11 K0 194 fb194_32.full where
  run := ⟨100000, by kernel_rfl⟩
  names := by kernel_rfl
theorem fb194_33_run : Memo.Ok Tryz.prog 11 K0 194 fb194_33.full where
  run := ⟨100000, by kernel_rfl⟩
  names := by kernel_rfl
theorem fb194_34_run : Memo.Ok Tryz.prog 11 K0 194 fb194_34.full where
  run := ⟨100000, by kernel_rfl⟩
  names := by kernel_rfl
theorem fb194_35_run : Memo.Ok Tryz.prog 11 K0 194 fb194_35.full where
  run := ⟨100000, by kernel_rfl⟩
  names := by kernel_rfl
theorem fb194_36_run : Memo.Ok Tryz.prog 11 K0 194 fb194_36.full where
  run := ⟨100000, by kernel_rfl⟩
  names := by kernel_rfl
theorem fb194_37_run : Memo.Ok Tryz.prog 11 K0 194 fb194_37.full where
  run := ⟨100000, by kernel_rfl⟩
  names := by kernel_rfl
theorem fb194_38_run : Memo.Ok Tryz.prog 11 K0 194 fb194_38.full where
  run := ⟨100000, by kernel_rfl⟩
  names := by kernel_rfl
theorem fb194_39_run : Memo.Ok Tryz.prog 11 K0 194 fb194_39.full where
  run := ⟨100000, by kernel_rfl⟩
  names := by kernel_rfl
theorem fb194_40_run : Memo.Ok Tryz.prog 11 K0 194 fb194_40.full where
  run := ⟨100000, by kernel_rfl⟩
  names := by kernel_rfl
theorem fb194_41_run : Memo.Ok Tryz.prog 11 K0 194 fb194_41.full where
  run := ⟨100000, by kernel_rfl⟩
  names := by kernel_rfl
theorem fb194_42_run : Memo.Ok Tryz.prog 11 K0 194 fb194_42.full where
  run := ⟨100000, by kernel_rfl⟩
  names := by kernel_rfl
theorem fb194_43_run : Memo.Ok Tryz.prog 11 K0 194 fb194_43.full where
  run := ⟨100000, by kernel_rfl⟩
  names := by kernel_rfl
theorem fb194_44_run : Memo.Ok Tryz.prog 11 K0 194 fb194_44.full where
  run := ⟨100000, by kernel_rfl⟩
  names := by kernel_rfl
theorem fb194_45_run : Memo.Ok Tryz.prog 11 K0 194 fb194_45.full where
  run := ⟨100000, by kernel_rfl⟩
  names := by kernel_rfl
theorem fb194_46_run : Memo.Ok Tryz.prog 11 K0 194 fb194_46.full where
  run := ⟨100000, by kernel_rfl⟩
  names := by kernel_rfl
theorem fb194_47_run : Memo.Ok Tryz.prog 11 K0 194 fb194_47.full where
  run := ⟨100000, by kernel_rfl⟩
  names := by kernel_rfl
theorem fb194_48_run : Memo.Ok Tryz.prog 11 K0 194 fb194_48.full where
  run := ⟨100000, by kernel_rfl⟩
  names := by kernel_rfl
theorem fb194_49_run : Memo.Ok Tryz.prog 11 K0 194 fb194_49.full where
  run := ⟨100000, by kernel_rfl⟩
  names := by kernel_rfl
theorem fb194_50_run : Memo.Ok Tryz.prog 11 K0 194 fb194_50.full where
  run := ⟨100000, by kernel_rfl⟩
  names := by kernel_rfl
theorem fb194_51_run : Memo.Ok Tryz.prog 11 K0 194 fb194_51.full where
  run := ⟨100000, by kernel_rfl⟩
  names := by kernel_rfl
theorem fb194_52_run : Memo.Ok Tryz.prog 11 K0 194 fb194_52.full where
  run := ⟨100000, by kernel_rfl⟩
  names := by kernel_rfl
theorem fb194_53_run : Memo.Ok Tryz.prog 11 K0 194 fb194_53.full where
  run := ⟨100000, by kernel_rfl⟩
  names := by kernel_rfl
theorem fb194_54_run : Memo.Ok Tryz.prog 11 K0 194 fb194_54.full where
  run := ⟨100000, by kernel_rfl⟩
  names := by kernel_rfl
theorem fb194_55_run : Memo.Ok Tryz.prog 11 K0 194 fb194_55.full where
  run := ⟨100000, by kernel_rfl⟩
  names := by kernel_rfl
theorem fb194_56_run : Memo.Ok Tryz.prog 11 K0 194 fb194_56.full where
  run := ⟨100000, by kernel_rfl⟩
  names := by kernel_rfl
theorem fb194_57_run : Memo.Ok Tryz.prog 11 K0 194 fb194_57.full where
  run := ⟨100000, by kernel_rfl⟩
  names := by kernel_rfl
theorem fb194_58_run : Memo.Ok Tryz.prog 11 K0 194 fb194_58.full where
  run := ⟨100000, by kernel_rfl⟩
  names := by kernel_rfl
theorem fb194_59_run : Memo.Ok Tryz.prog 11 K0 194 fb194_59.full where
  run := ⟨100000, by kernel_rfl⟩
  names := by kernel_rfl
theorem fb194_60_run : Memo.Ok Tryz.prog 11 K0 194 fb194_60.full where
  run := ⟨100000, by kernel_rfl⟩
  names := by kernel_rfl
theorem fb194_61_run : Memo.Ok Tryz.prog 11 K0 194 fb194_61.full where
  run := ⟨100000, by kernel_rfl⟩
  names := by kernel_rfl
theorem fb194_62_run : Memo.Ok Tryz.prog 11 K0 194 fb194_62.full where
  run := ⟨100000, by kernel_rfl⟩
  names := by kernel_rfl
theorem fb194_63_run : Memo.Ok Tryz.prog 11 K0 194 fb194_63.full where
  run := ⟨100000, by kernel_rfl⟩
  names := by kernel_rfl
theorem fb194_64_run : Memo.Ok Tryz.prog 11 K0 194 fb194_64.full where
  run := ⟨100000, by kernel_rfl⟩
  names := by kernel_rfl
theorem fb194_65_run : Memo.Ok Tryz.prog 11 K0 194 fb194_65.full where
  run := ⟨100000, by kernel_rfl⟩
  names := by kernel_rfl
theorem fb194_66_run : Memo.Ok Tryz.prog 11 K0 194 fb194_66.full where
  run := ⟨100000, by kernel_rfl⟩
  names := by kernel_rfl
theorem fb194_67_run : Memo.Ok Tryz.prog 11 K0 194 fb194_67.full where
  run := ⟨100000, by kernel_rfl⟩
  names := by kernel_rfl
theorem fb194_68_run : Memo.Ok Tryz.prog 11 K0 194 fb194_68.full where
  run := ⟨100000, by kernel_rfl⟩
  names := by kernel_rfl
theorem fb194_69_run : Memo.Ok Tryz.prog 11 K0 194 fb194_69.full where
  run := ⟨100000, by kernel_rfl⟩
  names := by kernel_rfl
end Go.Proofs.YthlfhfliidhelaaGreatDoor
namespace Go.Proofs.YthlfhfliidhelaaGreatDoor
open Go.RowKit
open Go.Proofs.YthlfhfliidhelaaGreatDoor.Eng
theorem fb177_0_run : Memo.Ok Tryz.prog 11 KZ11 177 fb177_0 where
  run := ⟨100000, by kernel_rfl⟩
  names := by kernel_rfl
end Go.Proofs.YthlfhfliidhelaaGreatDoor
namespace Go.Proofs.YthlfhfliidhelaaGreatDoor
open Go.RowKit
open Go.Proofs.YthlfhfliidhelaaGreatDoor.Eng
theorem fb178_0_run : Memo.Ok Tryz.prog 11 KZ15 178 fb178_0 where
  run := ⟨100000, by kernel_rfl⟩
  names := by kernel_rfl
end Go.Proofs.YthlfhfliidhelaaGreatDoor
