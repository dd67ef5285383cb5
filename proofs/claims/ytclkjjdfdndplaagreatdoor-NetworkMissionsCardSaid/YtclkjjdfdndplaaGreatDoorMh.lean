/- How the missions are opened and what wakes: the engine at this seat. -/
import Derived.Test.YtclkjjdfdndplaaGreatDoorMr0
import Derived.Test.YtclkjjdfdndplaaGreatDoorMr1
import Derived.Test.YtclkjjdfdndplaaGreatDoorMr2
import Derived.Test.YtclkjjdfdndplaaGreatDoorMr3
namespace Go.Proofs.YtclkjjdfdndplaaGreatDoor
open Go.RowKit
open Go.Proofs.YtclkjjdfdndplaaGreatDoor.Eng
theorem hyp181 : Hyp Tryz.prog 3 K181 :=
  hyp0.withM hyp0 (List.forall_mem_cons.2 ⟨f181_0_run, List.forall_mem_cons.2 ⟨f181_1_run, fun _ h => absurd h List.not_mem_nil⟩⟩) ⟨_, _, Tryz.func181, rfl, by kernel_rfl⟩
theorem hyp199 : Hyp Tryz.prog 3 K199 :=
  hyp181.withM hyp181 (List.forall_mem_cons.2 ⟨f199_0_run, List.forall_mem_cons.2 ⟨f199_1_run, List.forall_mem_cons.2 ⟨f199_2_run, List.forall_mem_cons.2 ⟨f199_3_run, List.forall_mem_cons.2 ⟨f199_4_run, fun _ h => absurd h List.not_mem_nil⟩⟩⟩⟩⟩) ⟨_, _, Tryz.func199, rfl, by kernel_rfl⟩
theorem hyp214 : Hyp Tryz.prog 3 K214 :=
  hyp199.withM hyp199 (List.forall_mem_cons.2 ⟨f214_0_run, List.forall_mem_cons.2 ⟨f214_1_run, fun _ h => absurd h List.not_mem_nil⟩⟩) ⟨_, _, Tryz.func214, rfl, by kernel_rfl⟩
theorem hyp292 : Hyp Tryz.prog 3 K292 :=
  hyp214.withM hyp214 (List.forall_mem_cons.2 ⟨f292_0_run, fun _ h => absurd h List.not_mem_nil⟩) ⟨_, _, Tryz.func292, rfl, by kernel_rfl⟩
theorem hyp227 : Hyp Tryz.prog 3 K227 :=
  hyp292.withM hyp292 (List.forall_mem_cons.2 ⟨f227_0_run, fun _ h => absurd h List.not_mem_nil⟩) ⟨_, _, Tryz.func227, rfl, by kernel_rfl⟩
theorem hyp174 : Hyp Tryz.prog 3 K174 :=
  hyp227.withM hyp227 (List.forall_mem_cons.2 ⟨f174_0_run, fun _ h => absurd h List.not_mem_nil⟩) ⟨_, _, Tryz.func174, rfl, by kernel_rfl⟩
theorem hyp387 : Hyp Tryz.prog 3 K387 :=
  hyp174.withM hyp174 (List.forall_mem_cons.2 ⟨f387_0_run, List.forall_mem_cons.2 ⟨f387_1_run, List.forall_mem_cons.2 ⟨f387_2_run, List.forall_mem_cons.2 ⟨f387_3_run, List.forall_mem_cons.2 ⟨f387_4_run, List.forall_mem_cons.2 ⟨f387_5_run, List.forall_mem_cons.2 ⟨f387_6_run, List.forall_mem_cons.2 ⟨f387_7_run, List.forall_mem_cons.2 ⟨f387_8_run, List.forall_mem_cons.2 ⟨f387_9_run, fun _ h => absurd h List.not_mem_nil⟩⟩⟩⟩⟩⟩⟩⟩⟩⟩) ⟨_, _, Tryz.func387, rfl, by kernel_rfl⟩
theorem hyp147 : Hyp Tryz.prog 3 K147 :=
  hyp387.withM hyp387 (List.forall_mem_cons.2 ⟨f147_0_run, List.forall_mem_cons.2 ⟨f147_1_run, fun _ h => absurd h List.not_mem_nil⟩⟩) ⟨_, _, Tryz.func147, rfl, by kernel_rfl⟩
theorem hyp118 : Hyp Tryz.prog 3 K118 :=
  hyp147.withM hyp147 (List.forall_mem_cons.2 ⟨f118_0_run, List.forall_mem_cons.2 ⟨f118_1_run, List.forall_mem_cons.2 ⟨f118_2_run, List.forall_mem_cons.2 ⟨f118_3_run, List.forall_mem_cons.2 ⟨f118_4_run, List.forall_mem_cons.2 ⟨f118_5_run, List.forall_mem_cons.2 ⟨f118_6_run, List.forall_mem_cons.2 ⟨f118_7_run, List.forall_mem_cons.2 ⟨f118_8_run, List.forall_mem_cons.2 ⟨f118_9_run, List.forall_mem_cons.2 ⟨f118_10_run, fun _ h => absurd h List.not_mem_nil⟩⟩⟩⟩⟩⟩⟩⟩⟩⟩⟩) ⟨_, _, Tryz.func118, rfl, by kernel_rfl⟩
theorem hyp33 : Hyp Tryz.prog 3 K33 :=
  hyp118.withM hyp118 (List.forall_mem_cons.2 ⟨f33_0_run, List.forall_mem_cons.2 ⟨f33_1_run, List.forall_mem_cons.2 ⟨f33_2_run, List.forall_mem_cons.2 ⟨f33_3_run, List.forall_mem_cons.2 ⟨f33_4_run, List.forall_mem_cons.2 ⟨f33_5_run, List.forall_mem_cons.2 ⟨f33_6_run, List.forall_mem_cons.2 ⟨f33_7_run, List.forall_mem_cons.2 ⟨f33_8_run, List.forall_mem_cons.2 ⟨f33_9_run, List.forall_mem_cons.2 ⟨f33_10_run, fun _ h => absurd h List.not_mem_nil⟩⟩⟩⟩⟩⟩⟩⟩⟩⟩⟩) ⟨_, _, Tryz.func33, rfl, by kernel_rfl⟩
theorem top_view : (view [] (exec Tryz.prog 3 K33 100000 (.call (.func (.func 5) #[] #[]) []) fr0 ⟨3, m8⟩)).map Prod.fst = some (.bool true) := by kernel_rfl
theorem top_call : ∃ H, CallSem Tryz.prog 3 (.func (.func 5) #[] #[]) [] ⟨3, m8⟩ (.bool true) H := by
  obtain ⟨⟨v0, n, l⟩, h, h1⟩ := Option.map_eq_some_iff.1 top_view
  dsimp only at h1
  subst h1
  unfold view at h
  split at h <;> first | (cases h; done) | skip
  rename_i v H hx
  injection h with h; injection h with h1 _
  subst h1
  exact ⟨H, run_call hyp33 hx⟩
theorem top_any (w : World) (hw : 3 ≤ w.heap.size) : Calls Tryz.prog 5 #[] w fun e w' => e = .returned (.bool true) ∧ Below w.heap.size w w' := by
  obtain ⟨H, h⟩ := top_call
  exact calls_of_run Tryz.func5 rfl (by kernel_rfl) (by decide) h w hw
end Go.Proofs.YtclkjjdfdndplaaGreatDoor
