/- PlanSelects: for every plan and all numbers the law returns true: From, Between and Active return the contacts that have the property, each once; those of From, for all nodes, are all contacts. Conditions: none beyond the row (the listed package variables are tied to the text). -/
import Derived.Test.YtgnlanfpholdaaaDoorL3
import Derived.Test.YtgnlanfpholdaaaDoorR0
namespace Go.Proofs.YtgnlanfpholdaaaDoor
open Go.ChangeShapes Go.WideShapes Go.ChangeAt Go.RowKit
set_option maxRecDepth 100000 in
theorem planSelects_lifted (os : Os) (started : os.Started) (H : Type) (enc : TypeId × Value → H) :
    ReturnsInHanded {} Tryd.checked os 5 .any (fun w args => (Rows.planSelectsSpec.pre enc Tryd.prog Tryd.f5 Rows.planSelectsRow.domain false w args ∧ laidMetH Tryd.prog Rows.planSelectsRow.laid w) ∧ sizedMet enc Tryd.prog Tryd.f5 (OpenSpec.ofChange Rows.planSelectsSpec) false w args)
      (Rows.planSelectsSpec.post enc Tryd.prog Tryd.f5 false true false false) := by
  refine returns_laid_shaped (C := Tryd.checked) (X := fun w _ => laidMetH Tryd.prog Rows.planSelectsRow.laid w) (fun _ _ _ hh h => h.of_heap hh) Tryd.own started (by kernel_rfl) Tryd.func5
    (ChangeSpec.witness_shaped (enc := enc) (C := Tryd.checked) (os := os) (X := fun w _ => laidMetH Tryd.prog Rows.planSelectsRow.laid w) false (World.laidAll Tryd.prog os Rows.planSelectsRow.laid) #[.agg #[.slice none 0 0, .slice none 0 0], .int .i64 0, .int .i64 0, .int .i64 0] 8 (World.laidAll_os _ _ _)
      (World.shaped_of_ZipB (by kernel_rfl) (by kernel_rfl)) (by kernel_rfl) (by kernel_rfl) (by kernel_rfl)
      (by rw [MakeChecks.laidMetH_plain _ _ _ (by kernel_rfl)]; exact laidMet_laidAll _ (by kernel_rfl) (by kernel_rfl))) ?_
  intro W base args ds gs before hval0 hW hcnd hsz hL hsh
  have hval : ∀ (j : Nat) t v, Tryd.f5.params[j]? = some t → args[j]? = some v → Value.okWide Tryd.prog W .any base t v := hval0
  have hW' := hW
  obtain ⟨p, q, hA0, hV, rfl, hfz, hnd⟩ := hW
  have hA : DataW.TrodAll enc Tryd.prog W 0 (fun _ => true) true Tryd.f5.params.toList args.toList ds p := hA0
  rw [Tryd.params5] at hA hval
  obtain ⟨v0, v1, v2, v3, d0, d1, d2, d3, p0, p1, p2, p3, rfl, rfl, rfl, h0, h1, h2, h3⟩ := trodAll_four hA
  obtain ⟨rfl, rfl⟩ := trodVars_none hV
  obtain ⟨qv0, cv0, qs0, cs0, rfl, hq0, hc0⟩ := open_plan (hval 0 25 v0 rfl rfl) h0
  obtain ⟨x1, rfl, rfl, rfl, wf1⟩ := open_int Tryd.underlying3 (hval 1 3 v1 rfl rfl) h1
  obtain ⟨x2, rfl, rfl, rfl, wf2⟩ := open_int Tryd.underlying3 (hval 2 3 v2 rfl rfl) h2
  obtain ⟨x3, rfl, rfl, rfl, wf3⟩ := open_int Tryd.underlying3 (hval 3 3 v3 rfl rfl) h3
  refine (selects_any qv0 cv0 qs0 cs0 x1 x2 x3 W hq0 hc0 (glob_of hL hsh)).mono fun e W' ⟨he, hb⟩ => ?_
  subst he
  exact ⟨_, rfl, law_post Tryd.laidOut Tryd.underlying4 rfl (by decide +kernel) rfl rfl rfl rfl hW' hb⟩
theorem planSelects_said : Rows.PlanSelectsSaid :=
  OpenClaim.holds_of_wide 5 Tryd.f5 rfl rfl rfl rfl rfl rfl rfl ⟨rfl, rfl, rfl, rfl, rfl⟩ rfl rfl rfl rfl rfl (by kernel_rfl) Tryd.func5 (by kernel_rfl)
    (of_decide_eq_true (by kernel_rfl)) (by unfold Func.isWrapper; first | (rw [if_pos (by decide +kernel)]; kernel_rfl) | (rw [if_neg (by decide +kernel)]; exact ⟨rfl, rfl⟩))
    (fun os started H enc _ => planSelects_lifted os started H enc)
theorem planSelects_plain (f : FuncId) (fn : Func) (hf : Tryd.pinned.checked.prog.funcNamed "mailboat/mailboatlaw22.PlanSelects" = some f) (hfn : Tryd.pinned.checked.prog.funcs[f]? = some fn) :
    true = Tryd.pinned.checked.prog.looks [] ∧ ∀ (j : Nat) t, fn.params[j]? = some t → Tryd.pinned.checked.prog.wantsStandIn t = false := by
  obtain rfl : f = 5 := Option.some.inj ((show Tryd.prog.funcNamed "mailboat/mailboatlaw22.PlanSelects" = some 5 by kernel_rfl).symm.trans hf) |>.symm
  obtain rfl : fn = Tryd.f5 := (Option.some.inj (Tryd.func5.symm.trans hfn)).symm
  refine ⟨by kernel_rfl, fun j t ht => ?_⟩
  rw [Tryd.params5] at ht
  have hm : t ∈ [25, 3, 3, 3] := by simpa using Array.mem_of_getElem? ht
  have hall : ([25, 3, 3, 3].all fun u => !Tryd.prog.wantsStandIn u) = true := by kernel_rfl
  have := List.all_eq_true.1 hall t hm
  exact (show Tryd.prog.wantsStandIn t = false by simpa using this)
theorem planSelects_holds : Rows.PlanSelectsCardSaid :=
  Claim7.holds_tied_plain_at .later [] _ _ _ _ planSelects_said (fun _ h => by cases h) (by kernel_rfl) (fun _ h => by cases h) planSelects_row_tie rfl ⟨rfl, rfl⟩ (by kernel_rfl) rfl planSelects_plain (by kernel_rfl)
#print axioms planSelects_holds
end Go.Proofs.YtgnlanfpholdaaaDoor
