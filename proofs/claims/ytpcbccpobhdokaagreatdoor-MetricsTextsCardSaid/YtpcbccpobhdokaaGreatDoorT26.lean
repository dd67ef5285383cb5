/- MetricsTexts: the listed variables are what the text lays. -/
import Derived.Test.YtpcbccpobhdokaaGreatDoorTa
import Derived.Test.YtpcbccpobhdokaaGreatDoorT16
import Derived.Test.YtpcbccpobhdokaaGreatDoorRb6
import Derived.Test.YtpcbccpobhdokaaGreatDoorRv6
set_option linter.unusedSimpArgs false
set_option linter.unusedVariables false
set_option linter.all false
namespace Go.Proofs.YtpcbccpobhdokaaGreatDoor
open Go
theorem metricsTexts_tied : Rows.metricsTextsRow.laidByTextAt .later Tryz.pinned [.pinned, .data, .data, .data, .data] true :=
  OpenClaim.laidByTextAt_pinned rfl rfl t_tie rfl rfl rfl rfl (fun y hy _e => by
    simp only [Rows.metricsTextsRow, List.zip_cons_cons, List.zip_nil_right, List.mem_cons, List.mem_nil_iff, or_false] at hy
    rcases hy with rfl | rfl | rfl | rfl | rfl
    · exact ⟨pin_first, by kernel_rfl⟩
    · cases _e
    · cases _e
    · cases _e
    · cases _e) t_fits
end Go.Proofs.YtpcbccpobhdokaaGreatDoor
namespace Go.Proofs.YtpcbccpobhdokaaGreatDoor
open Go.ChangeShapes Go.WideShapes Go.ChangeAt Go.RowKit
theorem and2 {a b : Bool} (h : a = true) (h2 : b = true) : (a && b) = true := by rw [h, h2]; rfl
set_option maxRecDepth 100000 in
theorem m6_closed : joinedFacts Tryz.prog 6 Tryz.f6 Rows.metricsTextsSpec Rows.metricsTextsRow = true := by
  unfold joinedFacts
  exact and2 (and2 (and2 (and2 (and2 (and2 (and2 (and2 (and2 (and2 (and2 (and2 (and2 (and2 (and2 (and2 (and2 (and2 (and2 (and2 (and2 (and2 (and2 (and2 (and2 (and2 (and2 (and2 (and2 (and2 (and2 m6_k1 Tryz.laidOut) m6_k3) m6_k4) m6_k5) m6_k6) m6_k7) m6_k8) m6_k9) m6_k10) m6_k11) m6_k12) m6_k13) m6_k14) m6_k15) m6_k16) m6_k17) m6_k18) m6_k19) m6_k20) m6_k21) m6_k22) m6_k23) m6_k24) m6_k25) m6_k26) m6_k27) m6_k28) m6_k29) m6_k30) m6_k31) m6_k32
theorem m6_at : Tryz.prog.funcNamed "mailboat/mailboatlaw57.MetricsTexts" = some 6 := by kernel_rfl
theorem m6_looks : true = Tryz.prog.looks [] := by kernel_rfl
theorem m6_bare : ([22, 22].all fun u => !Tryz.prog.wantsStandIn u) = true := by kernel_rfl
theorem metricsTexts_said : Rows.MetricsTextsSaid :=
  OpenClaim.holds_of_wide 6 Tryz.f6 rfl rfl rfl rfl rfl rfl rfl ⟨rfl, rfl, rfl, rfl, rfl⟩ rfl rfl rfl rfl rfl m6_at Tryz.func6 m6_closed
    (of_decide_eq_true (by kernel_rfl)) (by unfold Func.isWrapper; first | (rw [if_pos (by decide +kernel)]; kernel_rfl) | (rw [if_neg (by decide +kernel)]; exact ⟨rfl, rfl⟩))
    (fun os started H enc _ => metricsTexts_lifted os started H enc)
theorem metricsTexts_plain (f : FuncId) (fn : Func) (hf : Tryz.pinned.checked.prog.funcNamed "mailboat/mailboatlaw57.MetricsTexts" = some f) (hfn : Tryz.pinned.checked.prog.funcs[f]? = some fn) :
    true = Tryz.pinned.checked.prog.looks [] ∧ ∀ (j : Nat) t, fn.params[j]? = some t → Tryz.pinned.checked.prog.wantsStandIn t = false := by
  obtain rfl : f = 6 := Option.some.inj (m6_at.symm.trans hf) |>.symm
  obtain rfl : fn = Tryz.f6 := (Option.some.inj (Tryz.func6.symm.trans hfn)).symm
  refine ⟨m6_looks, fun j t ht => ?_⟩
  rw [Tryz.params6] at ht
  have hm : t ∈ [22, 22] := by simpa using Array.mem_of_getElem? ht
  have := List.all_eq_true.1 m6_bare t hm
  exact (show Tryz.prog.wantsStandIn t = false by simpa using this)
theorem no_goes : Tryz.prog.funcs.any Func.goes = false := by kernel_rfl
theorem goes_none (f : FuncId) : Tryz.prog.goes f = false := by
  have h : ∀ fn ∈ Tryz.prog.funcs, Func.goes fn = false := fun fn hfn => by
    have := Array.any_eq_false.1 no_goes
    obtain ⟨i, hi, e⟩ := Array.getElem_of_mem hfn
    have h2 := this i hi
    rw [e] at h2
    simpa using h2
  unfold Program.goes
  rw [no_goes, Bool.and_false, Bool.or_false, List.any_eq_false]
  intro g _
  cases hg : Tryz.prog.funcs[g]? with
  | none => simp
  | some fn => simpa using h fn (Array.mem_of_getElem? hg)
theorem goesFrom_none (n : String) : Tryz.prog.goesFrom n = false := by
  unfold Program.goesFrom
  cases h : Tryz.prog.funcNamed n with
  | none => rfl
  | some f => rw [Option.any_some, goes_none]
set_option maxRecDepth 100000 in
theorem goesBy_none (c : OpenClaim) (h : c.start = .entering) : c.goesBy Tryz.prog = false := by
  unfold OpenClaim.goesBy Program.goesAt
  rw [h, goesFrom_none, Bool.false_or]
set_option maxRecDepth 100000 in
theorem metricsTexts_goes : false = Rows.metricsTextsRow.goesBy Tryz.pinned.checked.prog := (goesBy_none Rows.metricsTextsRow rfl).symm
theorem metricsTexts_holds : Rows.MetricsTextsCardSaid :=
  Claim7.holds_tied_plain_at .later [] _ _ _ _ metricsTexts_said (fun _ h => by cases h) (by kernel_rfl) (fun _ h => by cases h) metricsTexts_tied rfl ⟨rfl, rfl⟩ (by kernel_rfl) rfl metricsTexts_plain metricsTexts_goes
#print axioms metricsTexts_holds
end Go.Proofs.YtpcbccpobhdokaaGreatDoor
