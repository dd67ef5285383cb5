/- LangLines: for every mission and outage the law returns true: the text of a mission has one line for each part; one more outage adds one line. Conditions: none beyond the row (the listed package variables are tied to the text). -/
import Derived.Test.YtmcgddlblhinlaaGreatDoorL4
import Derived.Test.YtmcgddlblhinlaaGreatDoorRM
namespace Go.Proofs.YtmcgddlblhinlaaGreatDoor
open Go.ChangeShapes Go.WideShapes Go.ChangeAt Go.RowKit
set_option maxRecDepth 100000 in
theorem langLines_lifted (os : Os) (started : os.Started) (H : Type) (enc : TypeId × Value → H) :
    ReturnsInHanded {} Tryz.checked os 6 .any (fun w args => (Rows.langLinesSpec.pre enc Tryz.prog Tryz.f6 Rows.langLinesRow.domain false w args ∧ laidMetH Tryz.prog Rows.langLinesRow.laid w) ∧ sizedMet enc Tryz.prog Tryz.f6 (OpenSpec.ofChange Rows.langLinesSpec) false w args)
      (Rows.langLinesSpec.post enc Tryz.prog Tryz.f6 false true false false) := by
  refine returns_laid_shaped (C := Tryz.checked) (X := fun w _ => laidMetH Tryz.prog Rows.langLinesRow.laid w) (fun _ _ _ hh h => h.of_heap hh) Tryz.own started (by kernel_rfl) Tryz.func6
    (ChangeSpec.witness_shaped (enc := enc) (C := Tryz.checked) (os := os) (X := fun w _ => laidMetH Tryz.prog Rows.langLinesRow.laid w) false (World.laidAll Tryz.prog os Rows.langLinesRow.laid) #[.agg #[.slice none 0 0, .slice none 0 0, .slice none 0 0, .slice none 0 0, .slice none 0 0, .bool false], .agg #[.int .i64 0, .int .i64 0, .int .i64 0]] 8 (World.laidAll_os _ _ _)
      (World.shaped_of_ZipB (by kernel_rfl) (by kernel_rfl)) (by kernel_rfl) (by kernel_rfl) (by kernel_rfl)
      (by rw [MakeChecks.laidMetH_plain _ _ _ (by kernel_rfl)]; exact laidMet_laidAll _ (by kernel_rfl) (by kernel_rfl))) ?_
  intro W base args ds gs before hval0 hW hcnd hsz hL hsh
  have hval : ∀ (j : Nat) t v, Tryz.f6.params[j]? = some t → args[j]? = some v → Value.okWide Tryz.prog W .any base t v := hval0
  have hW' := hW
  obtain ⟨p, q, hA0, hV, rfl, hfz, hnd⟩ := hW
  have hA : DataW.TrodAll enc Tryz.prog W 0 (fun _ => true) true Tryz.f6.params.toList args.toList ds p := hA0
  rw [Tryz.params6] at hA hval
  obtain ⟨v0, v1, d0, d1, p0, p1, rfl, rfl, rfl, h0, h1⟩ := trodAll_two hA
  obtain ⟨rfl, rfl⟩ := trodVars_none hV
  obtain ⟨VQ, VC, VO, VF, VX, m0, rfl, hM0⟩ := open_mis (hval 0 31 v0 rfl rfl) h0
  obtain ⟨x1, rfl⟩ := open_otg (hval 1 43 v1 rfl rfl) h1
  refine (lines_any _ _ _ _ _ m0 x1 W hM0 (glob_of hL hsh)).mono fun e W' ⟨he, hb⟩ => ?_
  subst he
  exact ⟨_, rfl, law_post Tryz.laidOut Tryz.underlying4 rfl (by decide +kernel) rfl rfl rfl rfl hW' hb⟩
theorem langLines_said : Rows.LangLinesSaid :=
  OpenClaim.holds_of_wide 6 Tryz.f6 rfl rfl rfl rfl rfl rfl rfl ⟨rfl, rfl, rfl, rfl, rfl⟩ rfl rfl rfl rfl rfl (by kernel_rfl) Tryz.func6 (by kernel_rfl)
    (of_decide_eq_true (by kernel_rfl)) (by unfold Func.isWrapper; first | (rw [if_pos (by decide +kernel)]; kernel_rfl) | (rw [if_neg (by decide +kernel)]; exact ⟨rfl, rfl⟩))
    (fun os started H enc _ => langLines_lifted os started H enc)
theorem langLines_plain (f : FuncId) (fn : Func) (hf : Tryz.pinned.checked.prog.funcNamed "mailboat/mailboatlaw58.LangLines" = some f) (hfn : Tryz.pinned.checked.prog.funcs[f]? = some fn) :
    true = Tryz.pinned.checked.prog.looks [] ∧ ∀ (j : Nat) t, fn.params[j]? = some t → Tryz.pinned.checked.prog.wantsStandIn t = false := by
  obtain rfl : f = 6 := Option.some.inj ((show Tryz.prog.funcNamed "mailboat/mailboatlaw58.LangLines" = some 6 by kernel_rfl).symm.trans hf) |>.symm
  obtain rfl : fn = Tryz.f6 := (Option.some.inj (Tryz.func6.symm.trans hfn)).symm
  refine ⟨by kernel_rfl, fun j t ht => ?_⟩
  rw [Tryz.params6] at ht
  have hm : t ∈ [31, 43] := by simpa using Array.mem_of_getElem? ht
  have hall : ([31, 43].all fun u => !Tryz.prog.wantsStandIn u) = true := by kernel_rfl
  have := List.all_eq_true.1 hall t hm
  exact (show Tryz.prog.wantsStandIn t = false by simpa using this)
theorem langLines_holds : Rows.LangLinesCardSaid :=
  Claim7.holds_tied_plain_at .later [] _ _ _ _ langLines_said (fun _ h => by cases h) (by kernel_rfl) (fun _ h => by cases h) langLines_row_tie rfl ⟨rfl, rfl⟩ (by kernel_rfl) rfl langLines_plain (by kernel_rfl)
#print axioms langLines_holds
end Go.Proofs.YtmcgddlblhinlaaGreatDoor
