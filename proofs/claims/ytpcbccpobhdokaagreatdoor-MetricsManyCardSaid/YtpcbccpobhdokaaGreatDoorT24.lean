/- MetricsMany: the listed variables are what the text lays. -/
import Derived.Test.YtpcbccpobhdokaaGreatDoorTa
import Derived.Test.YtpcbccpobhdokaaGreatDoorT14
import Derived.Test.YtpcbccpobhdokaaGreatDoorRb4
import Derived.Test.YtpcbccpobhdokaaGreatDoorRv4
set_option linter.unusedSimpArgs false
set_option linter.unusedVariables false
set_option linter.all false
namespace Go.Proofs.YtpcbccpobhdokaaGreatDoor
open Go
theorem metricsMany_tied : Rows.metricsManyRow.laidByTextAt .later Tryz.pinned [.pinned, .data, .data, .data, .data] true :=
  OpenClaim.laidByTextAt_pinned rfl rfl t_tie rfl rfl rfl rfl (fun y hy _e => by
    simp only [Rows.metricsManyRow, List.zip_cons_cons, List.zip_nil_right, List.mem_cons, List.mem_nil_iff, or_false] at hy
    rcases hy with rfl | rfl | rfl | rfl | rfl
    · exact ⟨pin_first, by kernel_rfl⟩
    · cases _e
    · cases _e
    · cases _e
    · cases _e) t_fits
end Go.Proofs.YtpcbccpobhdokaaGreatDoor
namespace Go.Proofs.YtpcbccpobhdokaaGreatDoor
open Go.ChangeShapes Go.WideShapes Go.ChangeAt Go.RowKit
theorem and2 {a b : Bool} (h : a = true) (h2 : b = true) : (a && b) = true := by rw [h, h2]; rfl
set_option maxRecDepth 100000 in
theorem m4_closed : joinedFacts Tryz.prog 4 Tryz.f4 Rows.metricsManySpec Rows.metricsManyRow = true := by
  unfold joinedFacts
  exact and2 (and2 (and2 (and2 (and2 (and2 (and2 (and2 (and2 (and2 (and2 (and2 (and2 (and2 (and2 (and2 (and2 (and2 (and2 (and2 (and2 (and2 (and2 (and2 (and2 (and2 (and2 (and2 (and2 (and2 (and2 m4_k1 Tryz.laidOut) m4_k3) m4_k4) m4_k5) m4_k6) m4_k7) m4_k8) m4_k9) m4_k10) m4_k11) m4_k12) m4_k13) m4_k14) m4_k15) m4_k16) m4_k17) m4_k18) m4_k19) m4_k20) m4_k21) m4_k22) m4_k23) m4_k24) m4_k25) m4_k26) m4_k27) m4_k28) m4_k29) m4_k30) m4_k31) m4_k32
theorem m4_at : Tryz.prog.funcNamed "mailboat/mailboatlaw57.MetricsMany" = some 4 := by kernel_rfl
theorem m4_looks : true = Tryz.prog.looks [] := by kernel_rfl
theorem m4_bare : ([4].all fun u => !Tryz.prog.wantsStandIn u) = true := by kernel_rfl
theorem metricsMany_said : Rows.MetricsManySaid :=
  OpenClaim.holds_of_wide 4 Tryz.f4 rfl rfl rfl rfl rfl rfl rfl ⟨rfl, rfl, rfl, rfl, rfl⟩ rfl rfl rfl rfl rfl m4_at Tryz.func4 m4_closed
    (of_decide_eq_true (by kernel_rfl)) (by unfold Func.isWrapper; first | (rw [if_pos (by decide +kernel)]; kernel_rfl) | (rw [if_neg (by decide +kernel)]; exact ⟨rfl, rfl⟩))
    (fun os started H enc _ => metricsMany_lifted os started H enc)
theorem metricsMany_plain (f : FuncId) (fn : Func) (hf : Tryz.pinned.checked.prog.funcNamed "mailboat/mailboatlaw57.MetricsMany" = some f) (hfn : Tryz.pinned.checked.prog.funcs[f]? = some fn) :
    true = Tryz.pinned.checked.prog.looks [] ∧ ∀ (j : Nat) t, fn.params[j]? = some t → Tryz.pinned.checked.prog.wantsStandIn t = false := by
  obtain rfl : f = 4 := Option.some.inj (m4_at.symm.trans hf) |>.symm
  obtain rfl : fn = Tryz.f4 := (Option.some.inj (Tryz.func4.symm.trans hfn)).symm
  refine ⟨m4_looks, fun j t ht => ?_⟩
  rw [Tryz.params4] at ht
  have hm : t ∈ [4] := by simpa using Array.mem_of_getElem? ht
  have := List.all_eq_true.1 m4_bare t hm
  exact (show Tryz.prog.wantsStandIn t = false by simpa using this)
theorem no_goes : Tryz.prog.funcs.any Func.goes = false := by kernel_rfl
theorem goes_none (f : FuncId) : Tryz.prog.goes f = false := by
  have h : ∀ fn ∈ Tryz.prog.funcs, Func.goes fn = false := fun fn hfn => by
    have := Array.any_eq_false.1 no_goes
    obtain ⟨i, hi, e⟩ := Array.getElem_of_mem hfn
    have h2 := this i hi
    rw [e] at h2
    simpa using h2
  unfold Program.goes
  rw [no_goes, Bool.and_false, Bool.or_false, List.any_eq_false]
  intro g _
  cases hg : Tryz.prog.funcs[g]? with
  | none => simp
  | some fn => simpa using h fn (Array.mem_of_getElem? hg)
theorem goesFrom_none (n : String) : Tryz.prog.goesFrom n = false := by
  unfold Program.goesFrom
  cases h : Tryz.prog.funcNamed n with
  | none => rfl
  | some f => rw [Option.any_some, goes_none]
set_option maxRecDepth 100000 in
theorem goesBy_none (c : OpenClaim) (h : c.start = .entering) : c.goesBy Tryz.prog = false := by
  unfold OpenClaim.goesBy Program.goesAt
  rw [h, goesFrom_none, Bool.false_or]
set_option maxRecDepth 100000 in
theorem metricsMany_goes : false = Rows.metricsManyRow.goesBy Tryz.pinned.checked.prog := (goesBy_none Rows.metricsManyRow rfl).symm
theorem metricsMany_holds : Rows.MetricsManyCardSaid :=
  Claim7.holds_tied_plain_at .later [] _ _ _ _ metricsMany_said (fun _ h => by cases h) (by kernel_rfl) (fun _ h => by cases h) metricsMany_tied rfl ⟨rfl, rfl⟩ (by kernel_rfl) rfl metricsMany_plain metricsMany_goes
#print axioms metricsMany_holds
end Go.Proofs.YtpcbccpobhdokaaGreatDoor
