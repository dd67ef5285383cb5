/- EndpointMore: for all groups, every group and endpoint the law returns true: a group that is added at the end does not change the members of other endpoints. Conditions: none beyond the row (the listed package variables are tied to the text). -/
import Derived.Test.YtbhmmffompapdaaDoorL5
namespace Go.Proofs.YtbhmmffompapdaaDoor
open Go.ChangeShapes Go.WideShapes Go.ChangeAt Go.RowKit
set_option maxRecDepth 100000 in
theorem endpointMore_lifted (os : Os) (started : os.Started) (H : Type) (enc : TypeId × Value → H) :
    ReturnsInHanded {} Tryd.checked os 7 .any (fun w args => (Rows.endpointMoreSpec.pre enc Tryd.prog Tryd.f7 Rows.endpointMoreRow.domain false w args ∧ laidMetH Tryd.prog Rows.endpointMoreRow.laid w) ∧ sizedMet enc Tryd.prog Tryd.f7 (OpenSpec.ofChange Rows.endpointMoreSpec) false w args)
      (Rows.endpointMoreSpec.post enc Tryd.prog Tryd.f7 false true false false) := by
  refine returnsInHanded_of_change_and (C := Tryd.checked) (X := fun w _ => laidMetH Tryd.prog Rows.endpointMoreRow.laid w) (fun _ _ _ hh h => h.of_heap hh) Tryd.own started (by kernel_rfl) Tryd.func7
    (ChangeSpec.witness_shaped (enc := enc) (C := Tryd.checked) (os := os) (X := fun w _ => laidMetH Tryd.prog Rows.endpointMoreRow.laid w) false (World.laidAll Tryd.prog os Rows.endpointMoreRow.laid) #[.slice none 0 0, .slice none 0 0, .agg #[.int .i64 0, .int .i64 0]] 8 (World.laidAll_os _ _ _)
      (World.shaped_of_ZipB (by kernel_rfl) (by kernel_rfl)) (by kernel_rfl) (by kernel_rfl) (by kernel_rfl)
      (by rw [MakeChecks.laidMetH_plain _ _ _ (by kernel_rfl)]; exact laidMet_laidAll _ (by kernel_rfl) (by kernel_rfl))) ?_
  intro W base args ds gs before hval0 hW hcnd hsh hL _
  have hval : ∀ (j : Nat) t v, Tryd.f7.params[j]? = some t → args[j]? = some v → Value.okWide Tryd.prog W .any base t v := hval0
  have hW' := hW
  obtain ⟨p, q, hA0, hV, rfl, hfz, hnd⟩ := hW
  have hA : DataW.TrodAll enc Tryd.prog W 0 (fun _ => true) true Tryd.f7.params.toList args.toList ds p := hA0
  rw [Tryd.params7] at hA hval
  obtain ⟨v0, v1, v2, d0, d1, d2, p0, p1, p2, rfl, rfl, rfl, h0, h1, h2⟩ := trodAll_three hA
  obtain ⟨rfl, rfl⟩ := trodVars_none hV
  obtain ⟨gs0, hg0, hs0⟩ := open_grps_sized (hval 0 29 v0 rfl rfl) h0
  obtain ⟨xs1, hg1⟩ := open_intsv (hval 1 31 v1 rfl rfl) h1
  obtain ⟨k2, n2, rfl, wk2, wn2⟩ := open_ep (hval 2 23 v2 rfl rfl) h2
  refine (more_any v0 gs0 v1 xs1 k2 n2 W hg0 hg1 (len_of hsh (by kernel_rfl) rfl hs0)).mono fun e W' ⟨he, hb⟩ => ?_
  subst he
  exact ⟨_, rfl, law_post Tryd.laidOut Tryd.underlying4 rfl (by decide +kernel) rfl rfl rfl rfl hW' hb⟩
theorem endpointMore_said : Rows.EndpointMoreSaid :=
  OpenClaim.holds_of_wide 7 Tryd.f7 rfl rfl rfl rfl rfl rfl rfl ⟨rfl, rfl, rfl, rfl, rfl⟩ rfl rfl rfl rfl rfl (by kernel_rfl) Tryd.func7 (by kernel_rfl)
    (of_decide_eq_true (by kernel_rfl)) (by unfold Func.isWrapper; first | (rw [if_pos (by decide +kernel)]; kernel_rfl) | (rw [if_neg (by decide +kernel)]; exact ⟨rfl, rfl⟩))
    (fun os started H enc _ => endpointMore_lifted os started H enc)
theorem endpointMore_plain (f : FuncId) (fn : Func) (hf : Tryd.pinned.checked.prog.funcNamed "mailboat/mailboatlaw11.EndpointMore" = some f) (hfn : Tryd.pinned.checked.prog.funcs[f]? = some fn) :
    true = Tryd.pinned.checked.prog.looks [] ∧ ∀ (j : Nat) t, fn.params[j]? = some t → Tryd.pinned.checked.prog.wantsStandIn t = false := by
  obtain rfl : f = 7 := Option.some.inj ((show Tryd.prog.funcNamed "mailboat/mailboatlaw11.EndpointMore" = some 7 by kernel_rfl).symm.trans hf) |>.symm
  obtain rfl : fn = Tryd.f7 := (Option.some.inj (Tryd.func7.symm.trans hfn)).symm
  refine ⟨by kernel_rfl, fun j t ht => ?_⟩
  rw [Tryd.params7] at ht
  have hm : t ∈ [29, 31, 23] := by simpa using Array.mem_of_getElem? ht
  have hall : ([29, 31, 23].all fun u => !Tryd.prog.wantsStandIn u) = true := by kernel_rfl
  have := List.all_eq_true.1 hall t hm
  exact (show Tryd.prog.wantsStandIn t = false by simpa using this)
theorem endpointMore_holds : Rows.EndpointMoreCardSaid :=
  Claim7.holds_tied_plain_at .later [] _ _ _ _ endpointMore_said (fun _ h => by cases h) (by kernel_rfl) (fun _ h => by cases h) endpointMore_row_tie rfl ⟨rfl, rfl⟩ (by kernel_rfl) rfl endpointMore_plain (by kernel_rfl)
#print axioms endpointMore_holds
end Go.Proofs.YtbhmmffompapdaaDoor
