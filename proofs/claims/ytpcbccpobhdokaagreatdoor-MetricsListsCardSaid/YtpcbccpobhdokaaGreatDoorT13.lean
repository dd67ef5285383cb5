/- MetricsLists: how the row's inputs are opened. -/
import Derived.Test.YtpcbccpobhdokaaGreatDoorR0
import Derived.Test.YtpcbccpobhdokaaGreatDoorMh
import Derived.Test.YtpcbccpobhdokaaGreatDoorL3
import Derived.Carry
import Derived.Test.YtpcbccpobhdokaaGreatDoorChecked
set_option linter.unusedSimpArgs false
set_option linter.unusedVariables false
set_option linter.all false
namespace Go.Proofs.YtpcbccpobhdokaaGreatDoor
open Go.ChangeShapes Go.WideShapes Go.ChangeAt Go.RowKit
theorem awake_ok : AwakeOk := fun w h => top_any w h.1 h.2.1
theorem gok3 {W : World} (hL : laidMetH Tryz.prog Rows.metricsListsRow.laid W) (hsh : W.ShapedOpen Tryz.prog) : GOk W := by
  rw [MakeChecks.laidMetH_plain _ _ _ (by kernel_rfl)] at hL
  exact gok_of hL hsh
set_option maxRecDepth 100000 in
theorem m3_contract {H : Type} {enc : TypeId × Value → H} (W : World) (base : Nat) (args : Array Value) (ds gs : List (DataW H)) (before : List MemPlace)
    (hval0 : ∀ (j : Nat) t v, Tryz.f3.params[j]? = some t → args[j]? = some v → Value.okWide Tryz.prog W .any base t v)
    (hW : DataW.Whole enc Tryz.prog Tryz.f3.params.toList Rows.metricsListsSpec.vars false W args.toList ds gs before)
    (hL : laidMetH Tryz.prog Rows.metricsListsRow.laid W) (hsh : W.ShapedOpen Tryz.prog) :
    Calls Tryz.prog 3 args W fun e W' => ∃ v, e = .returned v ∧ Rows.metricsListsSpec.post enc Tryz.prog Tryz.f3 false true false false W args v W' := by
  have hval := hval0
  have hW' := hW
  obtain ⟨p, q, hA0, hV, rfl, hfz, hnd⟩ := hW
  have hA : DataW.TrodAll enc Tryz.prog W 0 (fun _ => true) true Tryz.f3.params.toList args.toList ds p := hA0
  rw [Tryz.params3] at hA hval
  obtain ⟨v0, v1, v2, v3, d0, d1, d2, d3, p0, p1, p2, p3, rfl, rfl, rfl, h0, h1, h2, h3⟩ := trodAll_four hA
  obtain ⟨rfl, rfl⟩ := trodVars_none hV
  obtain ⟨xs, hx⟩ := open_mets (hval 0 22 v0 rfl rfl) h0
  obtain ⟨ys, hy⟩ := open_mets (hval 1 22 v1 rfl rfl) h1
  obtain ⟨n, rfl⟩ := okWide_string Tryz.underlying9 (hval 2 9 v2 rfl rfl)
  obtain ⟨i, rfl⟩ := okWide_int Tryz.underlying3 (hval 3 3 v3 rfl rfl)
  refine (lists_any awake_ok xs ys v0 v1 n i W hx hy (gok3 hL hsh)).mono fun e W' ⟨he, hb⟩ => ?_
  subst he
  exact ⟨_, rfl, law_post Tryz.laidOut Tryz.underlying4 rfl (by decide +kernel) rfl rfl rfl rfl hW' hb⟩
end Go.Proofs.YtpcbccpobhdokaaGreatDoor
namespace Go.Proofs.YtpcbccpobhdokaaGreatDoor
open Go.ChangeShapes Go.WideShapes Go.ChangeAt Go.RowKit
set_option maxRecDepth 100000 in
theorem metricsLists_lifted (os : Os) (started : os.Started) (H : Type) (enc : TypeId × Value → H) :
    ReturnsInHanded {} Tryz.checked os 3 .any (fun w args => (Rows.metricsListsSpec.pre enc Tryz.prog Tryz.f3 Rows.metricsListsRow.domain false w args ∧ laidMetH Tryz.prog Rows.metricsListsRow.laid w) ∧ sizedMet enc Tryz.prog Tryz.f3 (OpenSpec.ofChange Rows.metricsListsSpec) false w args)
      (Rows.metricsListsSpec.post enc Tryz.prog Tryz.f3 false true false false) :=
  returns_laid_shaped (C := Tryz.checked) (X := fun w _ => laidMetH Tryz.prog Rows.metricsListsRow.laid w) (fun _ _ _ hh h => h.of_heap hh) Tryz.own started (by kernel_rfl) Tryz.func3
    (ChangeSpec.witness_shaped (enc := enc) (C := Tryz.checked) (os := os) (X := fun w _ => laidMetH Tryz.prog Rows.metricsListsRow.laid w) false (World.laidAll Tryz.prog os Rows.metricsListsRow.laid) #[.slice none 0 0, .slice none 0 0, .string ⟨#[]⟩, .int .i64 0] 8 (World.laidAll_os _ _ _)
      (World.shaped_of_ZipB (by kernel_rfl) (by kernel_rfl)) (by kernel_rfl) (by kernel_rfl) (by kernel_rfl)
      (by rw [MakeChecks.laidMetH_plain _ _ _ (by kernel_rfl)]; exact laidMet_laidAll _ (by kernel_rfl) (by kernel_rfl)))
    (fun W base args ds gs before hval hW _ _ hL hsh => m3_contract W base args ds gs before hval hW hL hsh)
end Go.Proofs.YtpcbccpobhdokaaGreatDoor
