/- TraceLines: for every log and index the law returns true: the text of a log has one line for each entry; the text of its beginning followed by that of the rest is the text of the log. Conditions: none beyond the row (the listed package variables are tied to the text). -/
import Derived.Test.YtekpnphfdoplfaaDoorL7
import Derived.Test.YtekpnphfdoplfaaDoorR0
namespace Go.Proofs.YtekpnphfdoplfaaDoor
open Go.ChangeShapes Go.WideShapes Go.ChangeAt Go.RowKit
set_option maxRecDepth 100000 in
theorem traceLines_lifted (os : Os) (started : os.Started) (H : Type) (enc : TypeId × Value → H) :
    ReturnsInHanded {} Tryd.checked os 9 .any (fun w args => (Rows.traceLinesSpec.pre enc Tryd.prog Tryd.f9 Rows.traceLinesRow.domain false w args ∧ laidMetH Tryd.prog Rows.traceLinesRow.laid w) ∧ sizedMet enc Tryd.prog Tryd.f9 (OpenSpec.ofChange Rows.traceLinesSpec) false w args)
      (Rows.traceLinesSpec.post enc Tryd.prog Tryd.f9 false true false false) := by
  refine returns_laid_shaped (C := Tryd.checked) (X := fun w _ => laidMetH Tryd.prog Rows.traceLinesRow.laid w) (fun _ _ _ hh h => h.of_heap hh) Tryd.own started (by kernel_rfl) Tryd.func9
    (ChangeSpec.witness_shaped (enc := enc) (C := Tryd.checked) (os := os) (X := fun w _ => laidMetH Tryd.prog Rows.traceLinesRow.laid w) false (World.laidAll Tryd.prog os Rows.traceLinesRow.laid) #[.slice none 0 0, .int .u8 0] 8 (World.laidAll_os _ _ _)
      (World.shaped_of_ZipB (by kernel_rfl) (by kernel_rfl)) (by kernel_rfl) (by kernel_rfl) (by kernel_rfl)
      (by rw [MakeChecks.laidMetH_plain _ _ _ (by kernel_rfl)]; exact laidMet_laidAll _ (by kernel_rfl) (by kernel_rfl))) ?_
  intro W base args ds gs before hval0 hW hcnd hsz hL hsh
  have hval : ∀ (j : Nat) t v, Tryd.f9.params[j]? = some t → args[j]? = some v → Value.okWide Tryd.prog W .any base t v := hval0
  have hW' := hW
  obtain ⟨p, q, hA0, hV, rfl, hfz, hnd⟩ := hW
  have hA : DataW.TrodAll enc Tryd.prog W 0 (fun _ => true) true Tryd.f9.params.toList args.toList ds p := hA0
  rw [Tryd.params9] at hA hval
  obtain ⟨v0, v1, d0, d1, p0, p1, rfl, rfl, rfl, h0, h1⟩ := trodAll_two hA
  obtain ⟨rfl, rfl⟩ := trodVars_none hV
  obtain ⟨xs0, hv0, ok0⟩ := open_ents (hval 0 23 v0 rfl rfl) h0
  obtain ⟨x1, rfl, rfl, rfl, wf1⟩ := open_int Tryd.underlying5 (hval 1 5 v1 rfl rfl) h1
  refine (law_lines v0 xs0 x1 W hv0 wf1 (glob_of hL hsh)).mono fun e W' ⟨he, hb⟩ => ?_
  subst he
  exact ⟨_, rfl, law_post Tryd.laidOut Tryd.underlying4 rfl (by decide +kernel) rfl rfl rfl rfl hW' hb⟩
theorem traceLines_said : Rows.TraceLinesSaid :=
  OpenClaim.holds_of_wide 9 Tryd.f9 rfl rfl rfl rfl rfl rfl rfl ⟨rfl, rfl, rfl, rfl, rfl⟩ rfl rfl rfl rfl rfl (by kernel_rfl) Tryd.func9 (by kernel_rfl)
    (of_decide_eq_true (by kernel_rfl)) (by unfold Func.isWrapper; first | (rw [if_pos (by decide +kernel)]; kernel_rfl) | (rw [if_neg (by decide +kernel)]; exact ⟨rfl, rfl⟩))
    (fun os started H enc _ => traceLines_lifted os started H enc)
theorem traceLines_plain (f : FuncId) (fn : Func) (hf : Tryd.pinned.checked.prog.funcNamed "mailboat/mailboatlaw51.TraceLines" = some f) (hfn : Tryd.pinned.checked.prog.funcs[f]? = some fn) :
    true = Tryd.pinned.checked.prog.looks [] ∧ ∀ (j : Nat) t, fn.params[j]? = some t → Tryd.pinned.checked.prog.wantsStandIn t = false := by
  obtain rfl : f = 9 := Option.some.inj ((show Tryd.prog.funcNamed "mailboat/mailboatlaw51.TraceLines" = some 9 by kernel_rfl).symm.trans hf) |>.symm
  obtain rfl : fn = Tryd.f9 := (Option.some.inj (Tryd.func9.symm.trans hfn)).symm
  refine ⟨by kernel_rfl, fun j t ht => ?_⟩
  rw [Tryd.params9] at ht
  have hm : t ∈ [23, 5] := by simpa using Array.mem_of_getElem? ht
  have hall : ([23, 5].all fun u => !Tryd.prog.wantsStandIn u) = true := by kernel_rfl
  have := List.all_eq_true.1 hall t hm
  exact (show Tryd.prog.wantsStandIn t = false by simpa using this)
theorem traceLines_holds : Rows.TraceLinesCardSaid :=
  Claim7.holds_tied_plain_at .later [] _ _ _ _ traceLines_said (fun _ h => by cases h) (by kernel_rfl) (fun _ h => by cases h) traceLines_row_tie rfl ⟨rfl, rfl⟩ (by kernel_rfl) rfl traceLines_plain (by kernel_rfl)
#print axioms traceLines_holds
end Go.Proofs.YtekpnphfdoplfaaDoor
