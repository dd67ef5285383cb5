/- LangRoundTrip: for every mission and string the law returns true: parsing the text of a mission yields it; whatever can be parsed is the text of the result. Conditions: none beyond the row (the listed package variables are tied to the text). -/
import Derived.Test.YtmcgddlblhinlaaGreatDoorL3
import Derived.Test.YtmcgddlblhinlaaGreatDoorRM
namespace Go.Proofs.YtmcgddlblhinlaaGreatDoor
open Go.ChangeShapes Go.WideShapes Go.ChangeAt Go.RowKit
set_option maxRecDepth 100000 in
theorem langRoundTrip_lifted (os : Os) (started : os.Started) (H : Type) (enc : TypeId × Value → H) :
    ReturnsInHanded {} Tryz.checked os 4 .any (fun w args => (Rows.langRoundTripSpec.pre enc Tryz.prog Tryz.f4 Rows.langRoundTripRow.domain false w args ∧ laidMetH Tryz.prog Rows.langRoundTripRow.laid w) ∧ sizedMet enc Tryz.prog Tryz.f4 (OpenSpec.ofChange Rows.langRoundTripSpec) false w args)
      (Rows.langRoundTripSpec.post enc Tryz.prog Tryz.f4 false true false false) := by
  refine returns_laid_shaped (C := Tryz.checked) (X := fun w _ => laidMetH Tryz.prog Rows.langRoundTripRow.laid w) (fun _ _ _ hh h => h.of_heap hh) Tryz.own started (by kernel_rfl) Tryz.func4
    (ChangeSpec.witness_shaped (enc := enc) (C := Tryz.checked) (os := os) (X := fun w _ => laidMetH Tryz.prog Rows.langRoundTripRow.laid w) false (World.laidAll Tryz.prog os Rows.langRoundTripRow.laid) #[.agg #[.slice none 0 0, .slice none 0 0, .slice none 0 0, .slice none 0 0, .slice none 0 0, .bool false], .string ⟨#[]⟩] 8 (World.laidAll_os _ _ _)
      (World.shaped_of_ZipB (by kernel_rfl) (by kernel_rfl)) (by kernel_rfl) (by kernel_rfl) (by kernel_rfl)
      (by rw [MakeChecks.laidMetH_plain _ _ _ (by kernel_rfl)]; exact laidMet_laidAll _ (by kernel_rfl) (by kernel_rfl))) ?_
  intro W base args ds gs before hval0 hW hcnd hsz hL hsh
  have hval : ∀ (j : Nat) t v, Tryz.f4.params[j]? = some t → args[j]? = some v → Value.okWide Tryz.prog W .any base t v := hval0
  have hW' := hW
  obtain ⟨p, q, hA0, hV, rfl, hfz, hnd⟩ := hW
  have hA : DataW.TrodAll enc Tryz.prog W 0 (fun _ => true) true Tryz.f4.params.toList args.toList ds p := hA0
  rw [Tryz.params4] at hA hval
  obtain ⟨v0, v1, d0, d1, p0, p1, rfl, rfl, rfl, h0, h1⟩ := trodAll_two hA
  obtain ⟨rfl, rfl⟩ := trodVars_none hV
  obtain ⟨VQ, VC, VO, VF, VX, m0, rfl, hM0⟩ := open_mis (hval 0 31 v0 rfl rfl) h0
  obtain ⟨s1, rfl, rfl, rfl, ws1⟩ := Go.ChangeMaps.open_string Tryz.underlying9 (hval 1 9 v1 rfl rfl) h1
  refine (round_any _ _ _ _ _ m0 s1 W hM0 (glob_of hL hsh)).mono fun e W' ⟨he, hb⟩ => ?_
  subst he
  exact ⟨_, rfl, law_post Tryz.laidOut Tryz.underlying4 rfl (by decide +kernel) rfl rfl rfl rfl hW' hb⟩
theorem langRoundTrip_said : Rows.LangRoundTripSaid :=
  OpenClaim.holds_of_wide 4 Tryz.f4 rfl rfl rfl rfl rfl rfl rfl ⟨rfl, rfl, rfl, rfl, rfl⟩ rfl rfl rfl rfl rfl (by kernel_rfl) Tryz.func4 (by kernel_rfl)
    (of_decide_eq_true (by kernel_rfl)) (by unfold Func.isWrapper; first | (rw [if_pos (by decide +kernel)]; kernel_rfl) | (rw [if_neg (by decide +kernel)]; exact ⟨rfl, rfl⟩))
    (fun os started H enc _ => langRoundTrip_lifted os started H enc)
theorem langRoundTrip_plain (f : FuncId) (fn : Func) (hf : Tryz.pinned.checked.prog.funcNamed "mailboat/mailboatlaw58.LangRoundTrip" = some f) (hfn : Tryz.pinned.checked.prog.funcs[f]? = some fn) :
    true = Tryz.pinned.checked.prog.looks [] ∧ ∀ (j : Nat) t, fn.params[j]? = some t → Tryz.pinned.checked.prog.wantsStandIn t = false := by
  obtain rfl : f = 4 := Option.some.inj ((show Tryz.prog.funcNamed "mailboat/mailboatlaw58.LangRoundTrip" = some 4 by kernel_rfl).symm.trans hf) |>.symm
  obtain rfl : fn = Tryz.f4 := (Option.some.inj (Tryz.func4.symm.trans hfn)).symm
  refine ⟨by kernel_rfl, fun j t ht => ?_⟩
  rw [Tryz.params4] at ht
  have hm : t ∈ [31, 9] := by simpa using Array.mem_of_getElem? ht
  have hall : ([31, 9].all fun u => !Tryz.prog.wantsStandIn u) = true := by kernel_rfl
  have := List.all_eq_true.1 hall t hm
  exact (show Tryz.prog.wantsStandIn t = false by simpa using this)
theorem langRoundTrip_holds : Rows.LangRoundTripCardSaid :=
  Claim7.holds_tied_plain_at .later [] _ _ _ _ langRoundTrip_said (fun _ h => by cases h) (by kernel_rfl) (fun _ h => by cases h) langRoundTrip_row_tie rfl ⟨rfl, rfl⟩ (by kernel_rfl) rfl langRoundTrip_plain (by kernel_rfl)
#print axioms langRoundTrip_holds
end Go.Proofs.YtmcgddlblhinlaaGreatDoor
