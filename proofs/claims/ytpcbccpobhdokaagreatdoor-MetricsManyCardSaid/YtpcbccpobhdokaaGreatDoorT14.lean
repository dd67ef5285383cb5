/- awake answers true in every world. -/
import Derived.Test.YtpcbccpobhdokaaGreatDoorL1
import Derived.Test.YtpcbccpobhdokaaGreatDoorMh
import Derived.Test.YtpcbccpobhdokaaGreatDoorR0
import Derived.Test.YtpcbccpobhdokaaGreatDoorL4
import Derived.Carry
import Derived.Test.YtpcbccpobhdokaaGreatDoorChecked
set_option linter.unusedSimpArgs false
set_option linter.unusedVariables false
set_option linter.all false
namespace Go.Proofs.YtpcbccpobhdokaaGreatDoor
open Go.RowKit
theorem awake_ok : AwakeOk := fun w h => top_any w h.1 h.2.1
end Go.Proofs.YtpcbccpobhdokaaGreatDoor
namespace Go.Proofs.YtpcbccpobhdokaaGreatDoor
open Go.ChangeShapes Go.WideShapes Go.ChangeAt Go.RowKit
theorem gok4 {W : World} (hL : laidMetH Tryz.prog Rows.metricsManyRow.laid W) (hsh : W.ShapedOpen Tryz.prog) : GOk W := by
  rw [MakeChecks.laidMetH_plain _ _ _ (by kernel_rfl)] at hL
  exact gok_of hL hsh
set_option maxRecDepth 100000 in
theorem m4_contract {H : Type} {enc : TypeId × Value → H} (W : World) (base : Nat) (args : Array Value) (ds gs : List (DataW H)) (before : List MemPlace)
    (hval0 : ∀ (j : Nat) t v, Tryz.f4.params[j]? = some t → args[j]? = some v → Value.okWide Tryz.prog W .any base t v)
    (hW : DataW.Whole enc Tryz.prog Tryz.f4.params.toList Rows.metricsManySpec.vars false W args.toList ds gs before)
    (hL : laidMetH Tryz.prog Rows.metricsManyRow.laid W) (hsh : W.ShapedOpen Tryz.prog) :
    Calls Tryz.prog 4 args W fun e W' => ∃ v, e = .returned v ∧ Rows.metricsManySpec.post enc Tryz.prog Tryz.f4 false true false false W args v W' := by
  have hval := hval0
  have hW' := hW
  obtain ⟨p, q, hA0, hV, rfl, hfz, hnd⟩ := hW
  have hA : DataW.TrodAll enc Tryz.prog W 0 (fun _ => true) true Tryz.f4.params.toList args.toList ds p := hA0
  rw [Tryz.params4] at hA hval
  obtain ⟨v0, d0, rfl, rfl, h0⟩ := trodAll_one hA
  obtain ⟨rfl, rfl⟩ := trodVars_none hV
  obtain ⟨c, rfl⟩ := okWide_bool Tryz.underlying4 (hval 0 4 v0 rfl rfl)
  refine (many_any awake_ok c W (gok4 hL hsh)).mono fun e W' ⟨he, hb⟩ => ?_
  subst he
  exact ⟨_, rfl, law_post Tryz.laidOut Tryz.underlying4 rfl (by decide +kernel) rfl rfl rfl rfl hW' hb⟩
end Go.Proofs.YtpcbccpobhdokaaGreatDoor
namespace Go.Proofs.YtpcbccpobhdokaaGreatDoor
open Go.ChangeShapes Go.WideShapes Go.ChangeAt Go.RowKit
set_option maxRecDepth 100000 in
theorem metricsMany_lifted (os : Os) (started : os.Started) (H : Type) (enc : TypeId × Value → H) :
    ReturnsInHanded {} Tryz.checked os 4 .any (fun w args => (Rows.metricsManySpec.pre enc Tryz.prog Tryz.f4 Rows.metricsManyRow.domain false w args ∧ laidMetH Tryz.prog Rows.metricsManyRow.laid w) ∧ sizedMet enc Tryz.prog Tryz.f4 (OpenSpec.ofChange Rows.metricsManySpec) false w args)
      (Rows.metricsManySpec.post enc Tryz.prog Tryz.f4 false true false false) :=
  returns_laid_shaped (C := Tryz.checked) (X := fun w _ => laidMetH Tryz.prog Rows.metricsManyRow.laid w) (fun _ _ _ hh h => h.of_heap hh) Tryz.own started (by kernel_rfl) Tryz.func4
    (ChangeSpec.witness_shaped (enc := enc) (C := Tryz.checked) (os := os) (X := fun w _ => laidMetH Tryz.prog Rows.metricsManyRow.laid w) false (World.laidAll Tryz.prog os Rows.metricsManyRow.laid) #[.bool false] 8 (World.laidAll_os _ _ _)
      (World.shaped_of_ZipB (by kernel_rfl) (by kernel_rfl)) (by kernel_rfl) (by kernel_rfl) (by kernel_rfl)
      (by rw [MakeChecks.laidMetH_plain _ _ _ (by kernel_rfl)]; exact laidMet_laidAll _ (by kernel_rfl) (by kernel_rfl)))
    (fun W base args ds gs before hval hW _ _ hL hsh => m4_contract W base args ds gs before hval hW hL hsh)
end Go.Proofs.YtpcbccpobhdokaaGreatDoor
