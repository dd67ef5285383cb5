/- MetricsMerging: the listed variables are what the text lays. -/
import Derived.Test.YtpcbccpobhdokaaGreatDoorTa
import Derived.Test.YtpcbccpobhdokaaGreatDoorT15
import Derived.Test.YtpcbccpobhdokaaGreatDoorRb5
import Derived.Test.YtpcbccpobhdokaaGreatDoorRv5
set_option linter.unusedSimpArgs false
set_option linter.unusedVariables false
set_option linter.all false
namespace Go.Proofs.YtpcbccpobhdokaaGreatDoor
open Go
theorem metricsMerging_tied : Rows.metricsMergingRow.laidByTextAt .later Tryz.pinned [.pinned, .data, .data, .data, .data] true :=
  OpenClaim.laidByTextAt_pinned rfl rfl t_tie rfl rfl rfl rfl (fun y hy _e => by
    simp only [Rows.metricsMergingRow, List.zip_cons_cons, List.zip_nil_right, List.mem_cons, List.mem_nil_iff, or_false] at hy
    rcases hy with rfl | rfl | rfl | rfl | rfl
    · exact ⟨pin_first, by kernel_rfl⟩
    · cases _e
    · cases _e
    · cases _e
    · cases _e) t_fits
end Go.Proofs.YtpcbccpobhdokaaGreatDoor
namespace Go.Proofs.YtpcbccpobhdokaaGreatDoor
open Go.ChangeShapes Go.WideShapes Go.ChangeAt Go.RowKit
theorem and2 {a b : Bool} (h : a = true) (h2 : b = true) : (a && b) = true := by rw [h, h2]; rfl
set_option maxRecDepth 100000 in
theorem m5_closed : joinedFacts Tryz.prog 5 Tryz.f5 Rows.metricsMergingSpec Rows.metricsMergingRow = true := by
  unfold joinedFacts
  exact and2 (and2 (and2 (and2 (and2 (and2 (and2 (and2 (and2 (and2 (and2 (and2 (and2 (and2 (and2 (and2 (and2 (and2 (and2 (and2 (and2 (and2 (and2 (and2 (and2 (and2 (and2 (and2 (and2 (and2 (and2 m5_k1 Tryz.laidOut) m5_k3) m5_k4) m5_k5) m5_k6) m5_k7) m5_k8) m5_k9) m5_k10) m5_k11) m5_k12) m5_k13) m5_k14) m5_k15) m5_k16) m5_k17) m5_k18) m5_k19) m5_k20) m5_k21) m5_k22) m5_k23) m5_k24) m5_k25) m5_k26) m5_k27) m5_k28) m5_k29) m5_k30) m5_k31) m5_k32
theorem m5_at : Tryz.prog.funcNamed "mailboat/mailboatlaw57.MetricsMerging" = some 5 := by kernel_rfl
theorem m5_looks : true = Tryz.prog.looks [] := by kernel_rfl
theorem m5_bare : ([22, 22, 22].all fun u => !Tryz.prog.wantsStandIn u) = true := by kernel_rfl
theorem metricsMerging_said : Rows.MetricsMergingSaid :=
  OpenClaim.holds_of_wide 5 Tryz.f5 rfl rfl rfl rfl rfl rfl rfl ⟨rfl, rfl, rfl, rfl, rfl⟩ rfl rfl rfl rfl rfl m5_at Tryz.func5 m5_closed
    (of_decide_eq_true (by kernel_rfl)) (by unfold Func.isWrapper; first | (rw [if_pos (by decide +kernel)]; kernel_rfl) | (rw [if_neg (by decide +kernel)]; exact ⟨rfl, rfl⟩))
    (fun os started H enc _ => metricsMerging_lifted os started H enc)
theorem metricsMerging_plain (f : FuncId) (fn : Func) (hf : Tryz.pinned.checked.prog.funcNamed "mailboat/mailboatlaw57.MetricsMerging" = some f) (hfn : Tryz.pinned.checked.prog.funcs[f]? = some fn) :
    true = Tryz.pinned.checked.prog.looks [] ∧ ∀ (j : Nat) t, fn.params[j]? = some t → Tryz.pinned.checked.prog.wantsStandIn t = false := by
  obtain rfl : f = 5 := Option.some.inj (m5_at.symm.trans hf) |>.symm
  obtain rfl : fn = Tryz.f5 := (Option.some.inj (Tryz.func5.symm.trans hfn)).symm
  refine ⟨m5_looks, fun j t ht => ?_⟩
  rw [Tryz.params5] at ht
  have hm : t ∈ [22, 22, 22] := by simpa using Array.mem_of_getElem? ht
  have := List.all_eq_true.1 m5_bare t hm
  exact (show Tryz.prog.wantsStandIn t = false by simpa using this)
theorem no_goes : Tryz.prog.funcs.any Func.goes = false := by kernel_rfl
theorem goes_none (f : FuncId) : Tryz.prog.goes f = false := by
  have h : ∀ fn ∈ Tryz.prog.funcs, Func.goes fn = false := fun fn hfn => by
    have := Array.any_eq_false.1 no_goes
    obtain ⟨i, hi, e⟩ := Array.getElem_of_mem hfn
    have h2 := this i hi
    rw [e] at h2
    simpa using h2
  unfold Program.goes
  rw [no_goes, Bool.and_false, Bool.or_false, List.any_eq_false]
  intro g _
  cases hg : Tryz.prog.funcs[g]? with
  | none => simp
  | some fn => simpa using h fn (Array.mem_of_getElem? hg)
theorem goesFrom_none (n : String) : Tryz.prog.goesFrom n = false := by
  unfold Program.goesFrom
  cases h : Tryz.prog.funcNamed n with
  | none => rfl
  | some f => rw [Option.any_some, goes_none]
set_option maxRecDepth 100000 in
theorem goesBy_none (c : OpenClaim) (h : c.start = .entering) : c.goesBy Tryz.prog = false := by
  unfold OpenClaim.goesBy Program.goesAt
  rw [h, goesFrom_none, Bool.false_or]
set_option maxRecDepth 100000 in
theorem metricsMerging_goes : false = Rows.metricsMergingRow.goesBy Tryz.pinned.checked.prog := (goesBy_none Rows.metricsMergingRow rfl).symm
theorem metricsMerging_holds : Rows.MetricsMergingCardSaid :=
  Claim7.holds_tied_plain_at .later [] _ _ _ _ metricsMerging_said (fun _ h => by cases h) (by kernel_rfl) (fun _ h => by cases h) metricsMerging_tied rfl ⟨rfl, rfl⟩ (by kernel_rfl) rfl metricsMerging_plain metricsMerging_goes
#print axioms metricsMerging_holds
end Go.Proofs.YtpcbccpobhdokaaGreatDoor
