/- NetworkMissions: for every mission the law returns true: Check, New and Next return the results of the reference implementation. Conditions: none beyond the row (the listed package variables are tied to the text). -/
import Derived.Test.YtclkjjdfdndplaaGreatDoorR0
import Derived.Test.YtclkjjdfdndplaaGreatDoorRM
namespace Go.Proofs.YtclkjjdfdndplaaGreatDoor
open Go.ChangeShapes Go.WideShapes Go.ChangeAt Go.RowKit
set_option maxRecDepth 100000 in
theorem networkMissions_lifted (os : Os) (started : os.Started) (H : Type) (enc : TypeId × Value → H) :
    ReturnsInHanded {} Tryz.checked os 3 .any (fun w args => (Rows.networkMissionsSpec.pre enc Tryz.prog Tryz.f3 Rows.networkMissionsRow.domain false w args ∧ laidMetH Tryz.prog Rows.networkMissionsRow.laid w) ∧ sizedMet enc Tryz.prog Tryz.f3 (OpenSpec.ofChange Rows.networkMissionsSpec) false w args)
      (Rows.networkMissionsSpec.post enc Tryz.prog Tryz.f3 false true false false) := by
  refine returns_laid_shaped (C := Tryz.checked) (X := fun w _ => laidMetH Tryz.prog Rows.networkMissionsRow.laid w) (fun _ _ _ hh h => h.of_heap hh) Tryz.own started (by kernel_rfl) Tryz.func3
    (ChangeSpec.witness_shaped (enc := enc) (C := Tryz.checked) (os := os) (X := fun w _ => laidMetH Tryz.prog Rows.networkMissionsRow.laid w) false (World.laidAll Tryz.prog os Rows.networkMissionsRow.laid) #[.agg #[.slice none 0 0, .slice none 0 0, .slice none 0 0, .slice none 0 0, .slice none 0 0, .bool false]] 8 (World.laidAll_os _ _ _)
      (World.shaped_of_ZipB (by kernel_rfl) (by kernel_rfl)) (by kernel_rfl) (by kernel_rfl) (by kernel_rfl)
      (by rw [MakeChecks.laidMetH_plain _ _ _ (by kernel_rfl)]; exact laidMet_laidAll _ (by kernel_rfl) (by kernel_rfl))) ?_
  intro W base args ds gs before hval0 hW hcnd hsz hL hsh
  have hval : ∀ (j : Nat) t v, Tryz.f3.params[j]? = some t → args[j]? = some v → Value.okWide Tryz.prog W .any base t v := hval0
  have hW' := hW
  obtain ⟨p, q, hA0, hV, rfl, hfz, hnd⟩ := hW
  have hA : DataW.TrodAll enc Tryz.prog W 0 (fun _ => true) true Tryz.f3.params.toList args.toList ds p := hA0
  rw [Tryz.params3] at hA hval
  obtain ⟨v0, d0, rfl, rfl, h0⟩ := trodAll_one hA
  obtain ⟨rfl, rfl⟩ := trodVars_none hV
  obtain ⟨VQ, VC, VO, VF, VX, m0, rfl, hM0⟩ := open_mis (hval 0 30 v0 rfl rfl) h0
  refine (law_any _ _ _ _ _ m0 W hM0 (three_of hsh)).mono fun e W' ⟨he, hb⟩ => ?_
  subst he
  exact ⟨_, rfl, law_post Tryz.laidOut Tryz.underlying4 rfl (by decide +kernel) rfl rfl rfl rfl hW' hb⟩
end Go.Proofs.YtclkjjdfdndplaaGreatDoor
