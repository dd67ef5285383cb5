/- awake answers true in every world. -/
import Derived.Test.YtfafhdganloipaaGreatDoorMr0
import Derived.Test.YtfafhdganloipaaGreatDoorMr1
import Derived.Test.YtfafhdganloipaaGreatDoorMr2
import Derived.Test.YtfafhdganloipaaGreatDoorMr3
import Derived.Test.YtfafhdganloipaaGreatDoorMr4
namespace Go.Proofs.YtfafhdganloipaaGreatDoor
open Go.RowKit
open Go.Proofs.YtfafhdganloipaaGreatDoor.Eng
theorem hyp303 : Hyp Tryz.prog 6 K303 :=
  hyp0.withM hyp0 (List.forall_mem_cons.2 ⟨f303_0_run, List.forall_mem_cons.2 ⟨f303_1_run, List.forall_mem_cons.2 ⟨f303_2_run, List.forall_mem_cons.2 ⟨f303_3_run, fun _ h => absurd h List.not_mem_nil⟩⟩⟩⟩) ⟨_, _, Tryz.func303, rfl, by kernel_rfl⟩
theorem hyp371 : Hyp Tryz.prog 6 K371 :=
  hyp303.withM hyp303 (List.forall_mem_cons.2 ⟨f371_0_run, List.forall_mem_cons.2 ⟨f371_1_run, List.forall_mem_cons.2 ⟨f371_2_run, List.forall_mem_cons.2 ⟨f371_3_run, List.forall_mem_cons.2 ⟨f371_4_run, List.forall_mem_cons.2 ⟨f371_5_run, List.forall_mem_cons.2 ⟨f371_6_run, List.forall_mem_cons.2 ⟨f371_7_run, List.forall_mem_cons.2 ⟨f371_8_run, List.forall_mem_cons.2 ⟨f371_9_run, fun _ h => absurd h List.not_mem_nil⟩⟩⟩⟩⟩⟩⟩⟩⟩⟩) ⟨_, _, Tryz.func371, rfl, by kernel_rfl⟩
theorem hyp88 : Hyp Tryz.prog 6 K88 :=
  hyp371.withM hyp371 (List.forall_mem_cons.2 ⟨f88_0_run, List.forall_mem_cons.2 ⟨f88_1_run, List.forall_mem_cons.2 ⟨f88_2_run, List.forall_mem_cons.2 ⟨f88_3_run, fun _ h => absurd h List.not_mem_nil⟩⟩⟩⟩) ⟨_, _, Tryz.func88, rfl, by kernel_rfl⟩
theorem hyp479 : Hyp Tryz.prog 6 K479 :=
  hyp88.withM hyp88 (List.forall_mem_cons.2 ⟨f479_0_run, List.forall_mem_cons.2 ⟨f479_1_run, fun _ h => absurd h List.not_mem_nil⟩⟩) ⟨_, _, Tryz.func479, rfl, by kernel_rfl⟩
theorem hyp393 : Hyp Tryz.prog 6 K393 :=
  hyp479.withM hyp479 (List.forall_mem_cons.2 ⟨f393_0_run, List.forall_mem_cons.2 ⟨f393_1_run, fun _ h => absurd h List.not_mem_nil⟩⟩) ⟨_, _, Tryz.func393, rfl, by kernel_rfl⟩
theorem hyp296 : Hyp Tryz.prog 6 K296 :=
  hyp393.withM hyp393 (List.forall_mem_cons.2 ⟨f296_0_run, List.forall_mem_cons.2 ⟨f296_1_run, fun _ h => absurd h List.not_mem_nil⟩⟩) ⟨_, _, Tryz.func296, rfl, by kernel_rfl⟩
theorem hyp578 : Hyp Tryz.prog 6 K578 :=
  hyp296.withM hyp296 (List.forall_mem_cons.2 ⟨f578_0_run, List.forall_mem_cons.2 ⟨f578_1_run, List.forall_mem_cons.2 ⟨f578_2_run, List.forall_mem_cons.2 ⟨f578_3_run, List.forall_mem_cons.2 ⟨f578_4_run, List.forall_mem_cons.2 ⟨f578_5_run, List.forall_mem_cons.2 ⟨f578_6_run, List.forall_mem_cons.2 ⟨f578_7_run, List.forall_mem_cons.2 ⟨f578_8_run, List.forall_mem_cons.2 ⟨f578_9_run, List.forall_mem_cons.2 ⟨f578_10_run, List.forall_mem_cons.2 ⟨f578_11_run, List.forall_mem_cons.2 ⟨f578_12_run, List.forall_mem_cons.2 ⟨f578_13_run, List.forall_mem_cons.2 ⟨f578_14_run, List.forall_mem_cons.2 ⟨f578_15_run, List.forall_mem_cons.2 ⟨f578_16_run, List.forall_mem_cons.2 ⟨f578_17_run, List.forall_mem_cons.2 ⟨f578_18_run, List.forall_mem_cons.2 ⟨f578_19_run, fun _ h => absurd h List.not_mem_nil⟩⟩⟩⟩⟩⟩⟩⟩⟩⟩⟩⟩⟩⟩⟩⟩⟩⟩⟩⟩) ⟨_, _, Tryz.func578, rfl, by kernel_rfl⟩
theorem hyp207 : Hyp Tryz.prog 6 K207 :=
  hyp578.withM hyp578 (List.forall_mem_cons.2 ⟨f207_0_run, List.forall_mem_cons.2 ⟨f207_1_run, List.forall_mem_cons.2 ⟨f207_2_run, List.forall_mem_cons.2 ⟨f207_3_run, fun _ h => absurd h List.not_mem_nil⟩⟩⟩⟩) ⟨_, _, Tryz.func207, rfl, by kernel_rfl⟩
theorem hyp178 : Hyp Tryz.prog 6 K178 :=
  hyp207.withM hyp207 (List.forall_mem_cons.2 ⟨f178_0_run, List.forall_mem_cons.2 ⟨f178_1_run, List.forall_mem_cons.2 ⟨f178_2_run, List.forall_mem_cons.2 ⟨f178_3_run, List.forall_mem_cons.2 ⟨f178_4_run, List.forall_mem_cons.2 ⟨f178_5_run, List.forall_mem_cons.2 ⟨f178_6_run, List.forall_mem_cons.2 ⟨f178_7_run, List.forall_mem_cons.2 ⟨f178_8_run, List.forall_mem_cons.2 ⟨f178_9_run, List.forall_mem_cons.2 ⟨f178_10_run, List.forall_mem_cons.2 ⟨f178_11_run, List.forall_mem_cons.2 ⟨f178_12_run, List.forall_mem_cons.2 ⟨f178_13_run, List.forall_mem_cons.2 ⟨f178_14_run, List.forall_mem_cons.2 ⟨f178_15_run, List.forall_mem_cons.2 ⟨f178_16_run, List.forall_mem_cons.2 ⟨f178_17_run, List.forall_mem_cons.2 ⟨f178_18_run, List.forall_mem_cons.2 ⟨f178_19_run, List.forall_mem_cons.2 ⟨f178_20_run, List.forall_mem_cons.2 ⟨f178_21_run, fun _ h => absurd h List.not_mem_nil⟩⟩⟩⟩⟩⟩⟩⟩⟩⟩⟩⟩⟩⟩⟩⟩⟩⟩⟩⟩⟩⟩) ⟨_, _, Tryz.func178, rfl, by kernel_rfl⟩
theorem hyp26 : Hyp Tryz.prog 6 K26 :=
  hyp178.withM hyp0 (List.forall_mem_cons.2 ⟨f26_0_run, List.forall_mem_cons.2 ⟨f26_1_run, List.forall_mem_cons.2 ⟨f26_2_run, List.forall_mem_cons.2 ⟨f26_3_run, List.forall_mem_cons.2 ⟨f26_4_run, List.forall_mem_cons.2 ⟨f26_5_run, List.forall_mem_cons.2 ⟨f26_6_run, List.forall_mem_cons.2 ⟨f26_7_run, List.forall_mem_cons.2 ⟨f26_8_run, List.forall_mem_cons.2 ⟨f26_9_run, List.forall_mem_cons.2 ⟨f26_10_run, List.forall_mem_cons.2 ⟨f26_11_run, List.forall_mem_cons.2 ⟨f26_12_run, List.forall_mem_cons.2 ⟨f26_13_run, List.forall_mem_cons.2 ⟨f26_14_run, List.forall_mem_cons.2 ⟨f26_15_run, List.forall_mem_cons.2 ⟨f26_16_run, List.forall_mem_cons.2 ⟨f26_17_run, List.forall_mem_cons.2 ⟨f26_18_run, List.forall_mem_cons.2 ⟨f26_19_run, List.forall_mem_cons.2 ⟨f26_20_run, List.forall_mem_cons.2 ⟨f26_21_run, fun _ h => absurd h List.not_mem_nil⟩⟩⟩⟩⟩⟩⟩⟩⟩⟩⟩⟩⟩⟩⟩⟩⟩⟩⟩⟩⟩⟩) ⟨_, _, Tryz.func26, rfl, by kernel_rfl⟩
theorem top_view : (view [] (exec Tryz.prog 6 K26 100000 (.call (.func (.func 5) #[] #[]) []) fr0 ⟨6, m8⟩)).map Prod.fst = some (.bool true) := by kernel_rfl
theorem top_call : ∃ H, CallSem Tryz.prog 6 (.func (.func 5) #[] #[]) [] ⟨6, m8⟩ (.bool true) H := by
  obtain ⟨⟨v0, n, l⟩, h, h1⟩ := Option.map_eq_some_iff.1 top_view
  dsimp only at h1
  subst h1
  unfold view at h
  split at h <;> first | (cases h; done) | skip
  rename_i v H hx
  injection h with h; injection h with h1 _
  subst h1
  exact ⟨H, run_call hyp26 hx⟩
theorem top_any (w : World) (hw : 6 ≤ w.heap.size) (hg : Eng.GL Tryz.prog w) : Calls Tryz.prog 5 #[] w fun e w' => e = .returned (.bool true) ∧ Below w.heap.size w w' := by
  obtain ⟨H, h⟩ := top_call
  exact calls_of_run Tryz.func5 rfl (by kernel_rfl) (by decide) h w hw hg
end Go.Proofs.YtfafhdganloipaaGreatDoor
