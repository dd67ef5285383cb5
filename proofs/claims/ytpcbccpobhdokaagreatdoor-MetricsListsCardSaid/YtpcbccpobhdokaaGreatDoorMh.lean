/- A part of the proof about metrics. -/
import Derived.Test.YtpcbccpobhdokaaGreatDoorMr0
import Derived.Test.YtpcbccpobhdokaaGreatDoorMr1
import Derived.Test.YtpcbccpobhdokaaGreatDoorMr2
import Derived.Test.YtpcbccpobhdokaaGreatDoorMr3
import Derived.Test.YtpcbccpobhdokaaGreatDoorMr4
import Derived.Test.YtpcbccpobhdokaaGreatDoorN2
set_option linter.unusedSimpArgs false
set_option linter.unusedVariables false
set_option linter.all false
namespace Go.Proofs.YtpcbccpobhdokaaGreatDoor
open Go.RowKit
open Go.Proofs.YtpcbccpobhdokaaGreatDoor.Eng
theorem hyp239 : Hyp Tryz.prog 6 K239 :=
  hyp0.withM hyp0 (List.forall_mem_cons.2 ⟨f239_0_run, List.forall_mem_cons.2 ⟨f239_1_run, fun _ h => absurd h List.not_mem_nil⟩⟩) ⟨_, _, Tryz.func239, rfl, by kernel_rfl⟩
theorem hyp260 : Hyp Tryz.prog 6 K260 :=
  hyp239.withM hyp239 (List.forall_mem_cons.2 ⟨f260_0_run, List.forall_mem_cons.2 ⟨f260_1_run, List.forall_mem_cons.2 ⟨f260_2_run, List.forall_mem_cons.2 ⟨f260_3_run, List.forall_mem_cons.2 ⟨f260_4_run, fun _ h => absurd h List.not_mem_nil⟩⟩⟩⟩⟩) ⟨_, _, Tryz.func260, rfl, by kernel_rfl⟩
theorem hyp274 : Hyp Tryz.prog 6 K274 :=
  hyp260.withM hyp260 (List.forall_mem_cons.2 ⟨f274_0_run, List.forall_mem_cons.2 ⟨f274_1_run, fun _ h => absurd h List.not_mem_nil⟩⟩) ⟨_, _, Tryz.func274, rfl, by kernel_rfl⟩
theorem hyp352 : Hyp Tryz.prog 6 K352 :=
  hyp274.withM hyp274 (List.forall_mem_cons.2 ⟨f352_0_run, fun _ h => absurd h List.not_mem_nil⟩) ⟨_, _, Tryz.func352, rfl, by kernel_rfl⟩
theorem hyp287 : Hyp Tryz.prog 6 K287 :=
  hyp352.withM hyp352 (List.forall_mem_cons.2 ⟨f287_0_run, fun _ h => absurd h List.not_mem_nil⟩) ⟨_, _, Tryz.func287, rfl, by kernel_rfl⟩
theorem hyp232 : Hyp Tryz.prog 6 K232 :=
  hyp287.withM hyp287 (List.forall_mem_cons.2 ⟨f232_0_run, fun _ h => absurd h List.not_mem_nil⟩) ⟨_, _, Tryz.func232, rfl, by kernel_rfl⟩
theorem hyp446 : Hyp Tryz.prog 6 K446 :=
  hyp232.withM hyp232 (List.forall_mem_cons.2 ⟨f446_0_run, List.forall_mem_cons.2 ⟨f446_1_run, List.forall_mem_cons.2 ⟨f446_2_run, List.forall_mem_cons.2 ⟨f446_3_run, List.forall_mem_cons.2 ⟨f446_4_run, List.forall_mem_cons.2 ⟨f446_5_run, List.forall_mem_cons.2 ⟨f446_6_run, List.forall_mem_cons.2 ⟨f446_7_run, List.forall_mem_cons.2 ⟨f446_8_run, List.forall_mem_cons.2 ⟨f446_9_run, fun _ h => absurd h List.not_mem_nil⟩⟩⟩⟩⟩⟩⟩⟩⟩⟩) ⟨_, _, Tryz.func446, rfl, by kernel_rfl⟩
theorem hyp186 : Hyp Tryz.prog 6 K186 :=
  hyp446.withM hyp446 (List.forall_mem_cons.2 ⟨f186_0_run, List.forall_mem_cons.2 ⟨f186_1_run, fun _ h => absurd h List.not_mem_nil⟩⟩) ⟨_, _, Tryz.func186, rfl, by kernel_rfl⟩
theorem hyp159 : Hyp Tryz.prog 6 K159 :=
  hyp186.withM hyp186 (List.forall_mem_cons.2 ⟨f159_0_run, List.forall_mem_cons.2 ⟨f159_1_run, List.forall_mem_cons.2 ⟨f159_2_run, List.forall_mem_cons.2 ⟨f159_3_run, List.forall_mem_cons.2 ⟨f159_4_run, List.forall_mem_cons.2 ⟨f159_5_run, List.forall_mem_cons.2 ⟨f159_6_run, List.forall_mem_cons.2 ⟨f159_7_run, List.forall_mem_cons.2 ⟨f159_8_run, List.forall_mem_cons.2 ⟨f159_9_run, List.forall_mem_cons.2 ⟨f159_10_run, fun _ h => absurd h List.not_mem_nil⟩⟩⟩⟩⟩⟩⟩⟩⟩⟩⟩) ⟨_, _, Tryz.func159, rfl, by kernel_rfl⟩
noncomputable def K49 : Known := withM K21 49 [f49_0, f49_1, f49_2, f49_3, f49_4, f49_5, f49_6, f49_7, f49_8, f49_9, f49_10]
theorem hyp49 : Hyp Tryz.prog 6 K49 :=
  hyp159.withM hyp21 (List.forall_mem_cons.2 ⟨f49_0_run, List.forall_mem_cons.2 ⟨f49_1_run, List.forall_mem_cons.2 ⟨f49_2_run, List.forall_mem_cons.2 ⟨f49_3_run, List.forall_mem_cons.2 ⟨f49_4_run, List.forall_mem_cons.2 ⟨f49_5_run, List.forall_mem_cons.2 ⟨f49_6_run, List.forall_mem_cons.2 ⟨f49_7_run, List.forall_mem_cons.2 ⟨f49_8_run, List.forall_mem_cons.2 ⟨f49_9_run, List.forall_mem_cons.2 ⟨f49_10_run, fun _ h => absurd h List.not_mem_nil⟩⟩⟩⟩⟩⟩⟩⟩⟩⟩⟩) ⟨_, _, Tryz.func49, rfl, by kernel_rfl⟩
theorem top_view : (view [] (exec Tryz.prog 6 K49 100000 (.call (.func (.func 7) #[] #[]) []) fr0 ⟨6, m8⟩)).map Prod.fst = some (.bool true) := by kernel_rfl
theorem top_call : ∃ H, CallSem Tryz.prog 6 (.func (.func 7) #[] #[]) [] ⟨6, m8⟩ (.bool true) H := by
  obtain ⟨⟨v0, n, l⟩, h, h1⟩ := Option.map_eq_some_iff.1 top_view
  dsimp only at h1
  subst h1
  unfold view at h
  split at h <;> first | (cases h; done) | skip
  rename_i v H hx
  injection h with h; injection h with h1 _
  subst h1
  exact ⟨H, run_call hyp49 hx⟩
theorem top_any (w : World) (hw : 6 ≤ w.heap.size) (hg : Eng.GL Tryz.prog w) : Calls Tryz.prog 7 #[] w fun e w' => e = .returned (.bool true) ∧ Below w.heap.size w w' := by
  obtain ⟨H, h⟩ := top_call
  exact calls_of_run Tryz.func7 rfl (by kernel_rfl) (by decide) h w hw hg
end Go.Proofs.YtpcbccpobhdokaaGreatDoor
