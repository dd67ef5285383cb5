/- A part of the proof about archives. -/
import Derived.Test.YthlfhfliidhelaaGreatDoorMr0
import Derived.Test.YthlfhfliidhelaaGreatDoorMr2
import Derived.Test.YthlfhfliidhelaaGreatDoorMr5
import Derived.Test.YthlfhfliidhelaaGreatDoorMr8
import Derived.Test.YthlfhfliidhelaaGreatDoorMr11
import Derived.Test.YthlfhfliidhelaaGreatDoorMr14
import Derived.Test.YthlfhfliidhelaaGreatDoorMr17
import Derived.Test.YthlfhfliidhelaaGreatDoorMr20
import Derived.Test.YthlfhfliidhelaaGreatDoorMr23
import Derived.Test.YthlfhfliidhelaaGreatDoorMr26
import Derived.Test.YthlfhfliidhelaaGreatDoorMr29
import Derived.Test.YthlfhfliidhelaaGreatDoorMr32
import Derived.Test.YthlfhfliidhelaaGreatDoorMr35
import Derived.Test.YthlfhfliidhelaaGreatDoorMr38
import Derived.Test.YthlfhfliidhelaaGreatDoorMr41
import Derived.Test.YthlfhfliidhelaaGreatDoorMr44
set_option linter.unusedSimpArgs false
set_option linter.unusedVariables false
set_option linter.all false
namespace Go.Proofs.YthlfhfliidhelaaGreatDoor
open Go.RowKit
open Go.Proofs.YthlfhfliidhelaaGreatDoor.Eng
theorem okA381 : ∀ m ∈ msA381, m.Ok Tryz.prog 11 K0 381 := List.forall_mem_cons.2 ⟨fa381_0_run, List.forall_mem_cons.2 ⟨fa381_1_run, fun _ h => absurd h List.not_mem_nil⟩⟩
theorem hKZ0 : Hyp Tryz.prog 11 KZ0 := hyp0.withM hyp0 okA381 ⟨_, _, Tryz.func381, rfl, by kernel_rfl⟩
theorem okA444 : ∀ m ∈ msA444, m.Ok Tryz.prog 11 KZ0 444 := List.forall_mem_cons.2 ⟨fa444_0_run, List.forall_mem_cons.2 ⟨fa444_1_run, List.forall_mem_cons.2 ⟨fa444_2_run, List.forall_mem_cons.2 ⟨fa444_3_run, List.forall_mem_cons.2 ⟨fa444_4_run, fun _ h => absurd h List.not_mem_nil⟩⟩⟩⟩⟩
theorem hKZ1 : Hyp Tryz.prog 11 KZ1 := hKZ0.withM hKZ0 okA444 ⟨_, _, Tryz.func444, rfl, by kernel_rfl⟩
theorem okA29 : ∀ m ∈ msA29, m.Ok Tryz.prog 11 KZ1 29 := List.forall_mem_cons.2 ⟨fa29_0_run, List.forall_mem_cons.2 ⟨fa29_1_run, fun _ h => absurd h List.not_mem_nil⟩⟩
theorem hKZ2 : Hyp Tryz.prog 11 KZ2 := hKZ1.withM hKZ1 okA29 ⟨_, _, Tryz.func29, rfl, by kernel_rfl⟩
theorem okA546 : ∀ m ∈ msA546, m.Ok Tryz.prog 11 KZ2 546 := List.forall_mem_cons.2 ⟨fa546_0_run, fun _ h => absurd h List.not_mem_nil⟩
theorem hKZ3 : Hyp Tryz.prog 11 KZ3 := hKZ2.withM hKZ2 okA546 ⟨_, _, Tryz.func546, rfl, by kernel_rfl⟩
theorem okA465 : ∀ m ∈ msA465, m.Ok Tryz.prog 11 KZ3 465 := List.forall_mem_cons.2 ⟨fa465_0_run, fun _ h => absurd h List.not_mem_nil⟩
theorem hKZ4 : Hyp Tryz.prog 11 KZ4 := hKZ3.withM hKZ3 okA465 ⟨_, _, Tryz.func465, rfl, by kernel_rfl⟩
theorem okA374 : ∀ m ∈ msA374, m.Ok Tryz.prog 11 KZ4 374 := List.forall_mem_cons.2 ⟨fa374_0_run, fun _ h => absurd h List.not_mem_nil⟩
theorem hKZ5 : Hyp Tryz.prog 11 KZ5 := hKZ4.withM hKZ4 okA374 ⟨_, _, Tryz.func374, rfl, by kernel_rfl⟩
theorem okA632 : ∀ m ∈ msA632, m.Ok Tryz.prog 11 KZ5 632 := List.forall_mem_cons.2 ⟨fa632_0_run, List.forall_mem_cons.2 ⟨fa632_1_run, List.forall_mem_cons.2 ⟨fa632_2_run, List.forall_mem_cons.2 ⟨fa632_3_run, List.forall_mem_cons.2 ⟨fa632_4_run, List.forall_mem_cons.2 ⟨fa632_5_run, List.forall_mem_cons.2 ⟨fa632_6_run, List.forall_mem_cons.2 ⟨fa632_7_run, List.forall_mem_cons.2 ⟨fa632_8_run, List.forall_mem_cons.2 ⟨fa632_9_run, fun _ h => absurd h List.not_mem_nil⟩⟩⟩⟩⟩⟩⟩⟩⟩⟩
theorem hKZ6 : Hyp Tryz.prog 11 KZ6 := hKZ5.withM hKZ5 okA632 ⟨_, _, Tryz.func632, rfl, by kernel_rfl⟩
theorem okA274 : ∀ m ∈ msA274, m.Ok Tryz.prog 11 KZ6 274 := List.forall_mem_cons.2 ⟨fa274_0_run, List.forall_mem_cons.2 ⟨fa274_1_run, fun _ h => absurd h List.not_mem_nil⟩⟩
theorem hKZ7 : Hyp Tryz.prog 11 KZ7 := hKZ6.withM hKZ6 okA274 ⟨_, _, Tryz.func274, rfl, by kernel_rfl⟩
theorem okA248 : ∀ m ∈ msA248, m.Ok Tryz.prog 11 KZ7 248 := List.forall_mem_cons.2 ⟨fa248_0_run, List.forall_mem_cons.2 ⟨fa248_1_run, List.forall_mem_cons.2 ⟨fa248_2_run, List.forall_mem_cons.2 ⟨fa248_3_run, List.forall_mem_cons.2 ⟨fa248_4_run, List.forall_mem_cons.2 ⟨fa248_5_run, List.forall_mem_cons.2 ⟨fa248_6_run, List.forall_mem_cons.2 ⟨fa248_7_run, List.forall_mem_cons.2 ⟨fa248_8_run, List.forall_mem_cons.2 ⟨fa248_9_run, List.forall_mem_cons.2 ⟨fa248_10_run, fun _ h => absurd h List.not_mem_nil⟩⟩⟩⟩⟩⟩⟩⟩⟩⟩⟩
theorem hKZ20 : Hyp Tryz.prog 11 KZ20 := hKZ7.withM hKZ7 okA248 ⟨_, _, Tryz.func248, rfl, by kernel_rfl⟩
theorem okT40 : ∀ m ∈ msT40, m.Ok Tryz.prog 11 KZ20 40 := List.forall_mem_cons.2 ⟨ft40_0_run, List.forall_mem_cons.2 ⟨ft40_1_run, List.forall_mem_cons.2 ⟨ft40_2_run, List.forall_mem_cons.2 ⟨ft40_3_run, List.forall_mem_cons.2 ⟨ft40_4_run, List.forall_mem_cons.2 ⟨ft40_5_run, List.forall_mem_cons.2 ⟨ft40_6_run, List.forall_mem_cons.2 ⟨ft40_7_run, List.forall_mem_cons.2 ⟨ft40_8_run, List.forall_mem_cons.2 ⟨ft40_9_run, List.forall_mem_cons.2 ⟨ft40_10_run, fun _ h => absurd h List.not_mem_nil⟩⟩⟩⟩⟩⟩⟩⟩⟩⟩⟩
theorem hKZ25 : Hyp Tryz.prog 11 KZ25 := hKZ20.withM hyp0 okT40 ⟨_, _, Tryz.func40, rfl, by kernel_rfl⟩
theorem okT19 : ∀ m ∈ msT19, m.Ok Tryz.prog 11 K0 19 := List.forall_mem_cons.2 ⟨ft19_0_run, fun _ h => absurd h List.not_mem_nil⟩
theorem hKZ26 : Hyp Tryz.prog 11 KZ26 := hyp0.withM hKZ25 okT19 ⟨_, _, Tryz.func19, rfl, by kernel_rfl⟩
theorem okT20 : ∀ m ∈ msT20, m.Ok Tryz.prog 11 K0 20 := List.forall_mem_cons.2 ⟨ft20_0_run, fun _ h => absurd h List.not_mem_nil⟩
theorem hKZ27 : Hyp Tryz.prog 11 KZ27 := hyp0.withM hKZ26 okT20 ⟨_, _, Tryz.func20, rfl, by kernel_rfl⟩
theorem okT29 : ∀ m ∈ msT29, m.Ok Tryz.prog 11 K0 29 := List.forall_mem_cons.2 ⟨ft29_0_run, List.forall_mem_cons.2 ⟨ft29_1_run, List.forall_mem_cons.2 ⟨ft29_2_run, List.forall_mem_cons.2 ⟨ft29_3_run, List.forall_mem_cons.2 ⟨ft29_4_run, fun _ h => absurd h List.not_mem_nil⟩⟩⟩⟩⟩
theorem hKZ28 : Hyp Tryz.prog 11 KZ28 := hyp0.withM hKZ27 okT29 ⟨_, _, Tryz.func29, rfl, by kernel_rfl⟩
theorem okB184 : ∀ m ∈ msB184, m.Ok Tryz.prog 11 K0 184 := List.forall_mem_cons.2 ⟨fb184_0_run, List.forall_mem_cons.2 ⟨fb184_1_run, fun _ h => absurd h List.not_mem_nil⟩⟩
theorem hKZ10 : Hyp Tryz.prog 11 KZ10 := hyp0.withM hyp0 okB184 ⟨_, _, Tryz.func184, rfl, by kernel_rfl⟩
theorem okB185 : ∀ m ∈ msB185, m.Ok Tryz.prog 11 K0 185 := List.forall_mem_cons.2 ⟨fb185_0_run, List.forall_mem_cons.2 ⟨fb185_1_run, fun _ h => absurd h List.not_mem_nil⟩⟩
theorem hKZ11 : Hyp Tryz.prog 11 KZ11 := hyp0.withM hKZ10 okB185 ⟨_, _, Tryz.func185, rfl, by kernel_rfl⟩
theorem okB177 : ∀ m ∈ msB177, m.Ok Tryz.prog 11 KZ11 177 := List.forall_mem_cons.2 ⟨fb177_0_run, fun _ h => absurd h List.not_mem_nil⟩
theorem hKZ21 : Hyp Tryz.prog 11 KZ21 := hKZ11.withM hyp0 okB177 ⟨_, _, Tryz.func177, rfl, by kernel_rfl⟩
theorem okB179 : ∀ m ∈ msB179, m.Ok Tryz.prog 11 K0 179 := List.forall_mem_cons.2 ⟨fb179_0_run, List.forall_mem_cons.2 ⟨fb179_1_run, List.forall_mem_cons.2 ⟨fb179_2_run, fun _ h => absurd h List.not_mem_nil⟩⟩⟩
theorem hKZ8 : Hyp Tryz.prog 11 KZ8 := hyp0.withM hyp0 okB179 ⟨_, _, Tryz.func179, rfl, by kernel_rfl⟩
theorem okB298 : ∀ m ∈ msB298, m.Ok Tryz.prog 11 K0 298 := List.forall_mem_cons.2 ⟨fb298_0_run, fun _ h => absurd h List.not_mem_nil⟩
theorem hKZ12 : Hyp Tryz.prog 11 KZ12 := hyp0.withM hKZ8 okB298 ⟨_, _, Tryz.func298, rfl, by kernel_rfl⟩
theorem okB193 : ∀ m ∈ msB193, m.full.Sem Tryz.prog 11 193 := List.forall_mem_cons.2 ⟨fb193_0_run.toSem hyp0, List.forall_mem_cons.2 ⟨fb193_1_run.toSem hyp0, List.forall_mem_cons.2 ⟨fb193_2_run.toSem hyp0, List.forall_mem_cons.2 ⟨fb193_3_run.toSem hyp0, List.forall_mem_cons.2 ⟨fb193_4_run.toSem hyp0, List.forall_mem_cons.2 ⟨fb193_5_run.toSem hyp0, List.forall_mem_cons.2 ⟨fb193_6_run.toSem hyp0, List.forall_mem_cons.2 ⟨fb193_7_run.toSem hyp0, List.forall_mem_cons.2 ⟨fb193_8_run.toSem hyp0, List.forall_mem_cons.2 ⟨fb193_9_run.toSem hyp0, List.forall_mem_cons.2 ⟨fb193_10_run.toSem hyp0, List.forall_mem_cons.2 ⟨fb193_11_run.toSem hyp0, List.forall_mem_cons.2 ⟨fb193_12_run.toSem hyp0, List.forall_mem_cons.2 ⟨fb193_13_run.toSem hyp0, List.forall_mem_cons.2 ⟨fb193_14_run.toSem hyp0, List.forall_mem_cons.2 ⟨fb193_15_run.toSem hyp0, List.forall_mem_cons.2 ⟨fb193_16_run.toSem hyp0, List.forall_mem_cons.2 ⟨fb193_17_run.toSem hyp0, List.forall_mem_cons.2 ⟨fb193_18_run.toSem hyp0, List.forall_mem_cons.2 ⟨fb193_19_run.toSem hyp0, List.forall_mem_cons.2 ⟨fb193_20_run.toSem hyp0, List.forall_mem_cons.2 ⟨fb193_21_run.toSem hyp0, List.forall_mem_cons.2 ⟨fb193_22_run.toSem hyp0, List.forall_mem_cons.2 ⟨fb193_23_run.toSem hyp0, List.forall_mem_cons.2 ⟨fb193_24_run.toSem hyp0, List.forall_mem_cons.2 ⟨fb193_25_run.toSem hyp0, List.forall_mem_cons.2 ⟨fb193_26_run.toSem hyp0, List.forall_mem_cons.2 ⟨fb193_27_run.toSem hyp0, List.forall_mem_cons.2 ⟨fb193_28_run.toSem hyp0, List.forall_mem_cons.2 ⟨fb193_29_run.toSem hyp0, List.forall_mem_cons.2 ⟨fb193_30_run.toSem hyp0, List.forall_mem_cons.2 ⟨fb193_31_run.toSem hyp0, List.forall_mem_cons.2 ⟨fb193_32_run.toSem hyp0, List.forall_mem_cons.2 ⟨fb193_33_run.toSem hyp0, List.forall_mem_cons.2 ⟨fb193_34_run.toSem hyp0, List.forall_mem_cons.2 ⟨fb193_35_run.toSem hyp0, List.forall_mem_cons.2 ⟨fb193_36_run.toSem hyp0, List.forall_mem_cons.2 ⟨fb193_37_run.toSem hyp0, List.forall_mem_cons.2 ⟨fb193_38_run.toSem hyp0, List.forall_mem_cons.2 ⟨fb193_39_run.toSem hyp0, List.forall_mem_cons.2 ⟨fb193_40_run.toSem hyp0, List.forall_mem_cons.2 ⟨fb193_41_run.toSem hyp0, List.forall_mem_cons.2 ⟨fb193_42_run.toSem hyp0, List.forall_mem_cons.2 ⟨fb193_43_run.toSem hyp0, List.forall_mem_cons.2 ⟨fb193_44_run.toSem hyp0, List.forall_mem_cons.2 ⟨fb193_45_run.toSem hyp0, List.forall_mem_cons.2 ⟨fb193_46_run.toSem hyp0, List.forall_mem_cons.2 ⟨fb193_47_run.toSem hyp0, List.forall_mem_cons.2 ⟨fb193_48_run.toSem hyp0, List.forall_mem_cons.2 ⟨fb193_49_run.toSem hyp0, List.forall_mem_cons.2 ⟨fb193_50_run.toSem hyp0, List.forall_mem_cons.2 ⟨fb193_51_run.toSem hyp0, List.forall_mem_cons.2 ⟨fb193_52_run.toSem hyp0, List.forall_mem_cons.2 ⟨fb193_53_run.toSem hyp0, List.forall_mem_cons.2 ⟨fb193_54_run.toSem hyp0, List.forall_mem_cons.2 ⟨fb193_55_run.toSem hyp0, List.forall_mem_cons.2 ⟨fb193_56_run.toSem hyp0, List.forall_mem_cons.2 ⟨fb193_57_run.toSem hyp0, List.forall_mem_cons.2 ⟨fb193_58_run.toSem hyp0, List.forall_mem_cons.2 ⟨fb193_59_run.toSem hyp0, List.forall_mem_cons.2 ⟨fb193_60_run.toSem hyp0, List.forall_mem_cons.2 ⟨fb193_61_run.toSem hyp0, List.forall_mem_cons.2 ⟨fb193_62_run.toSem hyp0, List.forall_mem_cons.2 ⟨fb193_63_run.toSem hyp0, List.forall_mem_cons.2 ⟨fb193_64_run.toSem hyp0, List.forall_mem_cons.2 ⟨fb193_65_run.toSem hyp0, List.forall_mem_cons.2 ⟨fb193_66_run.toSem hyp0, List.forall_mem_cons.2 ⟨fb193_67_run.toSem hyp0, List.forall_mem_cons.2 ⟨fb193_68_run.toSem hyp0, List.forall_mem_cons.2 ⟨fb193_69_run.toSem hyp0, List.forall_mem_cons.2 ⟨fb193_70_run.toSem hyp0, List.forall_mem_cons.2 ⟨fb193_71_run.toSem hyp0, fun _ h => absurd h List.not_mem_nil⟩⟩⟩⟩⟩⟩⟩⟩⟩⟩⟩⟩⟩⟩⟩⟩⟩⟩⟩⟩⟩⟩⟩⟩⟩⟩⟩⟩⟩⟩⟩⟩⟩⟩⟩⟩⟩⟩⟩⟩⟩⟩⟩⟩⟩⟩⟩⟩⟩⟩⟩⟩⟩⟩⟩⟩⟩⟩⟩⟩⟩⟩⟩⟩⟩⟩⟩⟩⟩⟩⟩⟩
theorem hKZ13 : Hyp Tryz.prog 11 KZ13 := hKZ12.withM2 okB193 ⟨_, _, Tryz.func193, rfl, by kernel_rfl⟩
theorem okB194 : ∀ m ∈ msB194, m.full.Sem Tryz.prog 11 194 := List.forall_mem_cons.2 ⟨fb194_0_run.toSem hyp0, List.forall_mem_cons.2 ⟨fb194_1_run.toSem hyp0, List.forall_mem_cons.2 ⟨fb194_2_run.toSem hyp0, List.forall_mem_cons.2 ⟨fb194_3_run.toSem hyp0, List.forall_mem_cons.2 ⟨fb194_4_run.toSem hyp0, List.forall_mem_cons.2 ⟨fb194_5_run.toSem hyp0, List.forall_mem_cons.2 ⟨fb194_6_run.toSem hyp0, List.forall_mem_cons.2 ⟨fb194_7_run.toSem hyp0, List.forall_mem_cons.2 ⟨fb194_8_run.toSem hyp0, List.forall_mem_cons.2 ⟨fb194_9_run.toSem hyp0, List.forall_mem_cons.2 ⟨fb194_10_run.toSem hyp0, List.forall_mem_cons.2 ⟨fb194_11_run.toSem hyp0, List.forall_mem_cons.2 ⟨fb194_12_run.toSem hyp0, List.forall_mem_cons.2 ⟨fb194_13_run.toSem hyp0, List.forall_mem_cons.2 ⟨fb194_14_run.toSem hyp0, List.forall_mem_cons.2 ⟨fb194_15_run.toSem hyp0, List.forall_mem_cons.2 ⟨fb194_16_run.toSem hyp0, List.forall_mem_cons.2 ⟨fb194_17_run.toSem hyp0, List.forall_mem_cons.2 ⟨fb194_18_run.toSem hyp0, List.forall_mem_cons.2 ⟨fb194_19_run.toSem hyp0, List.forall_mem_cons.2 ⟨fb194_20_run.toSem hyp0, List.forall_mem_cons.2 ⟨fb194_21_run.toSem hyp0, List.forall_mem_cons.2 ⟨fb194_22_run.toSem hyp0, List.forall_mem_cons.2 ⟨fb194_23_run.toSem hyp0, List.forall_mem_cons.2 ⟨fb194_24_run.toSem hyp0, List.forall_mem_cons.2 ⟨fb194_25_run.toSem hyp0, List.forall_mem_cons.2 ⟨fb194_26_run.toSem hyp0, List.forall_mem_cons.2 ⟨fb194_27_run.toSem hyp0, List.forall_mem_cons.2 ⟨fb194_28_run.toSem hyp0, List.forall_mem_cons.2 ⟨fb194_29_run.toSem hyp0, List.forall_mem_cons.2 ⟨fb194_30_run.toSem hyp0, List.forall_mem_cons.2 ⟨fb194_31_run.toSem hyp0, List.forall_mem_cons.2 ⟨fb194_32_run.toSem hyp0, List.forall_mem_cons.2 ⟨fb194_33_run.toSem hyp0, List.forall_mem_cons.2 ⟨fb194_34_run.toSem hyp0, List.forall_mem_cons.2 ⟨fb194_35_run.toSem hyp0, List.forall_mem_cons.2 ⟨fb194_36_run.toSem hyp0, List.forall_mem_cons.2 ⟨fb194_37_run.toSem hyp0, List.forall_mem_cons.2 ⟨fb194_38_run.toSem hyp0, List.forall_mem_cons.2 ⟨fb194_39_run.toSem hyp0, List.forall_mem_cons.2 ⟨fb194_40_run.toSem hyp0, List.forall_mem_cons.2 ⟨fb194_41_run.toSem hyp0, List.forall_mem_cons.2 ⟨fb194_42_run.toSem hyp0, List.forall_mem_cons.2 ⟨fb194_43_run.toSem hyp0, List.forall_mem_cons.2 ⟨fb194_44_run.toSem hyp0, List.forall_mem_cons.2 ⟨fb194_45_run.toSem hyp0, List.forall_mem_cons.2 ⟨fb194_46_run.toSem hyp0, List.forall_mem_cons.2 ⟨fb194_47_run.toSem hyp0, List.forall_mem_cons.2 ⟨fb194_48_run.toSem hyp0, List.forall_mem_cons.2 ⟨fb194_49_run.toSem hyp0, List.forall_mem_cons.2 ⟨fb194_50_run.toSem hyp0, List.forall_mem_cons.2 ⟨fb194_51_run.toSem hyp0, List.forall_mem_cons.2 ⟨fb194_52_run.toSem hyp0, List.forall_mem_cons.2 ⟨fb194_53_run.toSem hyp0, List.forall_mem_cons.2 ⟨fb194_54_run.toSem hyp0, List.forall_mem_cons.2 ⟨fb194_55_run.toSem hyp0, List.forall_mem_cons.2 ⟨fb194_56_run.toSem hyp0, List.forall_mem_cons.2 ⟨fb194_57_run.toSem hyp0, List.forall_mem_cons.2 ⟨fb194_58_run.toSem hyp0, List.forall_mem_cons.2 ⟨fb194_59_run.toSem hyp0, List.forall_mem_cons.2 ⟨fb194_60_run.toSem hyp0, List.forall_mem_cons.2 ⟨fb194_61_run.toSem hyp0, List.forall_mem_cons.2 ⟨fb194_62_run.toSem hyp0, List.forall_mem_cons.2 ⟨fb194_63_run.toSem hyp0, List.forall_mem_cons.2 ⟨fb194_64_run.toSem hyp0, List.forall_mem_cons.2 ⟨fb194_65_run.toSem hyp0, List.forall_mem_cons.2 ⟨fb194_66_run.toSem hyp0, List.forall_mem_cons.2 ⟨fb194_67_run.toSem hyp0, List.forall_mem_cons.2 ⟨fb194_68_run.toSem hyp0, List.forall_mem_cons.2 ⟨fb194_69_run.toSem hyp0, fun _ h => absurd h List.not_mem_nil⟩⟩⟩⟩⟩⟩⟩⟩⟩⟩⟩⟩⟩⟩⟩⟩⟩⟩⟩⟩⟩⟩⟩⟩⟩⟩⟩⟩⟩⟩⟩⟩⟩⟩⟩⟩⟩⟩⟩⟩⟩⟩⟩⟩⟩⟩⟩⟩⟩⟩⟩⟩⟩⟩⟩⟩⟩⟩⟩⟩⟩⟩⟩⟩⟩⟩⟩⟩⟩⟩
theorem hKZ14 : Hyp Tryz.prog 11 KZ14 := hKZ13.withM2 okB194 ⟨_, _, Tryz.func194, rfl, by kernel_rfl⟩
theorem okB294 : ∀ m ∈ msB294, m.Ok Tryz.prog 11 K0 294 := List.forall_mem_cons.2 ⟨fb294_0_run, List.forall_mem_cons.2 ⟨fb294_1_run, List.forall_mem_cons.2 ⟨fb294_2_run, fun _ h => absurd h List.not_mem_nil⟩⟩⟩
theorem hKZ15 : Hyp Tryz.prog 11 KZ15 := hyp0.withM hKZ14 okB294 ⟨_, _, Tryz.func294, rfl, by kernel_rfl⟩
theorem okB178 : ∀ m ∈ msB178, m.Ok Tryz.prog 11 KZ15 178 := List.forall_mem_cons.2 ⟨fb178_0_run, fun _ h => absurd h List.not_mem_nil⟩
theorem hKZ22 : Hyp Tryz.prog 11 KZ22 := hKZ15.withM hKZ21 okB178 ⟨_, _, Tryz.func178, rfl, by kernel_rfl⟩
theorem hKZ9 : Hyp Tryz.prog 11 KZ9 := hyp0.withM hKZ8 okB294 ⟨_, _, Tryz.func294, rfl, by kernel_rfl⟩
theorem okB188 : ∀ m ∈ msB188, m.Ok Tryz.prog 11 KZ9 188 := List.forall_mem_cons.2 ⟨fb188_0_run, List.forall_mem_cons.2 ⟨fb188_1_run, fun _ h => absurd h List.not_mem_nil⟩⟩
theorem hKZ16 : Hyp Tryz.prog 11 KZ16 := hKZ9.withM hyp0 okB188 ⟨_, _, Tryz.func188, rfl, by kernel_rfl⟩
theorem hKZ17 : Hyp Tryz.prog 11 KZ17 := hKZ16.withM2 okB193 ⟨_, _, Tryz.func193, rfl, by kernel_rfl⟩
theorem hKZ18 : Hyp Tryz.prog 11 KZ18 := hKZ17.withM2 okB194 ⟨_, _, Tryz.func194, rfl, by kernel_rfl⟩
theorem okB100 : ∀ m ∈ msB100, m.Ok Tryz.prog 11 KZ18 100 := List.forall_mem_cons.2 ⟨fb100_0_run, fun _ h => absurd h List.not_mem_nil⟩
theorem hKZ23 : Hyp Tryz.prog 11 KZ23 := hKZ18.withM hKZ22 okB100 ⟨_, _, Tryz.func100, rfl, by kernel_rfl⟩
theorem hKZ19 : Hyp Tryz.prog 11 KZ19 := hKZ9.withM hKZ11 okB188 ⟨_, _, Tryz.func188, rfl, by kernel_rfl⟩
theorem okB102 : ∀ m ∈ msB102, m.Ok Tryz.prog 11 KZ19 102 := List.forall_mem_cons.2 ⟨fb102_0_run, fun _ h => absurd h List.not_mem_nil⟩
theorem hKZ24 : Hyp Tryz.prog 11 KZ24 := hKZ19.withM hKZ23 okB102 ⟨_, _, Tryz.func102, rfl, by kernel_rfl⟩
theorem okT52 : ∀ m ∈ msT52, m.Ok Tryz.prog 11 KZ24 52 := List.forall_mem_cons.2 ⟨ft52_0_run, fun _ h => absurd h List.not_mem_nil⟩
theorem hKZ29 : Hyp Tryz.prog 11 KZ29 := hKZ24.withM hKZ28 okT52 ⟨_, _, Tryz.func52, rfl, by kernel_rfl⟩
theorem okT53 : ∀ m ∈ msT53, m.Ok Tryz.prog 11 K0 53 := List.forall_mem_cons.2 ⟨ft53_0_run, List.forall_mem_cons.2 ⟨ft53_1_run, List.forall_mem_cons.2 ⟨ft53_2_run, fun _ h => absurd h List.not_mem_nil⟩⟩⟩
theorem hKZ30 : Hyp Tryz.prog 11 KZ30 := hyp0.withM hKZ29 okT53 ⟨_, _, Tryz.func53, rfl, by kernel_rfl⟩
theorem okT25 : ∀ m ∈ msT25, m.Ok Tryz.prog 11 K0 25 := List.forall_mem_cons.2 ⟨ft25_0_run, List.forall_mem_cons.2 ⟨ft25_1_run, fun _ h => absurd h List.not_mem_nil⟩⟩
theorem hKZ31 : Hyp Tryz.prog 11 KZ31 := hyp0.withM hKZ30 okT25 ⟨_, _, Tryz.func25, rfl, by kernel_rfl⟩
theorem okT27 : ∀ m ∈ msT27, m.Ok Tryz.prog 11 K0 27 := List.forall_mem_cons.2 ⟨ft27_0_run, List.forall_mem_cons.2 ⟨ft27_1_run, fun _ h => absurd h List.not_mem_nil⟩⟩
theorem hKZ32 : Hyp Tryz.prog 11 KZ32 := hyp0.withM hKZ31 okT27 ⟨_, _, Tryz.func27, rfl, by kernel_rfl⟩
theorem okT67 : ∀ m ∈ msT67, m.Ok Tryz.prog 11 K0 67 := List.forall_mem_cons.2 ⟨ft67_0_run, List.forall_mem_cons.2 ⟨ft67_1_run, fun _ h => absurd h List.not_mem_nil⟩⟩
theorem hKZ33 : Hyp Tryz.prog 11 KZ33 := hyp0.withM hKZ32 okT67 ⟨_, _, Tryz.func67, rfl, by kernel_rfl⟩
theorem top_view : (view [] (exec Tryz.prog 11 KZ33 100000 (.call (.func (.func 5) #[] #[]) []) fr0 (mkH 11 [(0, .cells spA 399)]))).map Prod.fst = some (.bool true) := by kernel_rfl
theorem top_call : ∃ H, CallSem Tryz.prog 11 (.func (.func 5) #[] #[]) [] (mkH 11 [(0, .cells spA 399)]) (.bool true) H := by
  obtain ⟨⟨v0, n, l⟩, h, h1⟩ := Option.map_eq_some_iff.1 top_view
  dsimp only at h1
  subst h1
  unfold view at h
  split at h <;> first | (cases h; done) | skip
  rename_i v H hx
  injection h with h; injection h with h1 _
  subst h1
  exact ⟨H, run_call hKZ33 hx⟩
theorem vrs_u8 (J : Inj) : ∀ l : List Nat, VRs J (l.map fun n => .int .u8 (.ofNat n)) (l.map fun n => .int .u8 (.ofNat n))
  | [] => .nil
  | _ :: l => .cons _ _ _ _ (by constructor) (vrs_u8 J l)
theorem top_any (w : World) (hw : 11 ≤ w.heap.size) (hg : Eng.GL Tryz.prog w) (hx : Eng.GX w 0 399 spA) : Calls Tryz.prog 5 #[] w fun e w' => e = .returned (.bool true) ∧ Below w.heap.size w w' := by
  obtain ⟨H, h⟩ := top_call
  exact calls_of_run_on Tryz.func5 rfl (by kernel_rfl) (by decide) h (by decide) (fun J => vrs_u8 J _) w hw hg hx
#print axioms top_any
end Go.Proofs.YthlfhfliidhelaaGreatDoor
