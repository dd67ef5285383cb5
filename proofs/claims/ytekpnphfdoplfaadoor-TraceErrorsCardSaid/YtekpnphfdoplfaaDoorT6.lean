/- TraceErrors: for every log, line and rest the law returns true: a line that is not the text of an entry is reported with its number, whatever stands behind it. Conditions: none beyond the row (the listed package variables are tied to the text). -/
import Derived.Test.YtekpnphfdoplfaaDoorL6
import Derived.Test.YtekpnphfdoplfaaDoorR0
import Derived.SizedLaws
namespace Go.Proofs.YtekpnphfdoplfaaDoor
open Go.ChangeShapes Go.WideShapes Go.ChangeAt Go.RowKit
set_option maxRecDepth 100000 in
theorem traceErrors_lifted (os : Os) (started : os.Started) (H : Type) (enc : TypeId × Value → H) :
    ReturnsInHanded {} Tryd.checked os 8 .any (fun w args => (Rows.traceErrorsSpec.pre enc Tryd.prog Tryd.f8 Rows.traceErrorsRow.domain false w args ∧ laidMetH Tryd.prog Rows.traceErrorsRow.laid w) ∧ sizedMet enc Tryd.prog Tryd.f8 (OpenSpec.ofChange Rows.traceErrorsSpec) false w args)
      (Rows.traceErrorsSpec.post enc Tryd.prog Tryd.f8 false true false false) := by
  refine returns_laid_shaped (C := Tryd.checked) (X := fun w _ => laidMetH Tryd.prog Rows.traceErrorsRow.laid w) (fun _ _ _ hh h => h.of_heap hh) Tryd.own started (by kernel_rfl) Tryd.func8
    (ChangeSpec.witness_shaped (enc := enc) (C := Tryd.checked) (os := os) (X := fun w _ => laidMetH Tryd.prog Rows.traceErrorsRow.laid w) false (World.laidAll Tryd.prog os Rows.traceErrorsRow.laid) #[.slice none 0 0, .string ⟨#[]⟩, .string ⟨#[]⟩] 8 (World.laidAll_os _ _ _)
      (World.shaped_of_ZipB (by kernel_rfl) (by kernel_rfl)) (by kernel_rfl) (by kernel_rfl) (by kernel_rfl)
      (by rw [MakeChecks.laidMetH_plain _ _ _ (by kernel_rfl)]; exact laidMet_laidAll _ (by kernel_rfl) (by kernel_rfl))) ?_
  intro W base args ds gs before hval0 hW hcnd hsz hL hsh
  have hval : ∀ (j : Nat) t v, Tryd.f8.params[j]? = some t → args[j]? = some v → Value.okWide Tryd.prog W .any base t v := hval0
  have hW' := hW
  obtain ⟨p, q, hA0, hV, rfl, hfz, hnd⟩ := hW
  have hA : DataW.TrodAll enc Tryd.prog W 0 (fun _ => true) true Tryd.f8.params.toList args.toList ds p := hA0
  rw [Tryd.params8] at hA hval
  obtain ⟨v0, v1, v2, d0, d1, d2, p0, p1, p2, rfl, rfl, rfl, h0, h1, h2⟩ := trodAll_three hA
  obtain ⟨rfl, rfl⟩ := trodVars_none hV
  obtain ⟨xs0, hv0, ok0⟩ := open_ents (hval 0 23 v0 rfl rfl) h0
  obtain ⟨s1, rfl, rfl, rfl, ws1⟩ := Go.ChangeMaps.open_string Tryd.underlying9 (hval 1 9 v1 rfl rfl) h1
  obtain ⟨s2, rfl, rfl, rfl, ws2⟩ := Go.ChangeMaps.open_string Tryd.underlying9 (hval 2 9 v2 rfl rfl) h2
  refine (law_errors v0 xs0 s1 s2 (sized_string hsz (j := 1) rfl rfl) (sized_string hsz (j := 2) rfl rfl) W hv0 (glob_of hL hsh)).mono fun e W' ⟨he, hb⟩ => ?_
  subst he
  exact ⟨_, rfl, law_post Tryd.laidOut Tryd.underlying4 rfl (by decide +kernel) rfl rfl rfl rfl hW' hb⟩
theorem traceErrors_said : Rows.TraceErrorsSaid :=
  OpenClaim.holds_of_wide 8 Tryd.f8 rfl rfl rfl rfl rfl rfl rfl ⟨rfl, rfl, rfl, rfl, rfl⟩ rfl rfl rfl rfl rfl (by kernel_rfl) Tryd.func8 (by kernel_rfl)
    (of_decide_eq_true (by kernel_rfl)) (by unfold Func.isWrapper; first | (rw [if_pos (by decide +kernel)]; kernel_rfl) | (rw [if_neg (by decide +kernel)]; exact ⟨rfl, rfl⟩))
    (fun os started H enc _ => traceErrors_lifted os started H enc)
theorem traceErrors_plain (f : FuncId) (fn : Func) (hf : Tryd.pinned.checked.prog.funcNamed "mailboat/mailboatlaw51.TraceErrors" = some f) (hfn : Tryd.pinned.checked.prog.funcs[f]? = some fn) :
    true = Tryd.pinned.checked.prog.looks [] ∧ ∀ (j : Nat) t, fn.params[j]? = some t → Tryd.pinned.checked.prog.wantsStandIn t = false := by
  obtain rfl : f = 8 := Option.some.inj ((show Tryd.prog.funcNamed "mailboat/mailboatlaw51.TraceErrors" = some 8 by kernel_rfl).symm.trans hf) |>.symm
  obtain rfl : fn = Tryd.f8 := (Option.some.inj (Tryd.func8.symm.trans hfn)).symm
  refine ⟨by kernel_rfl, fun j t ht => ?_⟩
  rw [Tryd.params8] at ht
  have hm : t ∈ [23, 9, 9] := by simpa using Array.mem_of_getElem? ht
  have hall : ([23, 9, 9].all fun u => !Tryd.prog.wantsStandIn u) = true := by kernel_rfl
  have := List.all_eq_true.1 hall t hm
  exact (show Tryd.prog.wantsStandIn t = false by simpa using this)
theorem traceErrors_holds : Rows.TraceErrorsCardSaid :=
  Claim7.holds_tied_plain_at .later [] _ _ _ _ traceErrors_said (fun _ h => by cases h) (by kernel_rfl) (fun _ h => by cases h) traceErrors_row_tie rfl ⟨rfl, rfl⟩ (by kernel_rfl) rfl traceErrors_plain (by kernel_rfl)
#print axioms traceErrors_holds
end Go.Proofs.YtekpnphfdoplfaaDoor
