/- MetricsLists: the listed variables are what the text lays. -/
import Derived.Test.YtpcbccpobhdokaaGreatDoorTa
import Derived.Test.YtpcbccpobhdokaaGreatDoorT13
import Derived.Test.YtpcbccpobhdokaaGreatDoorRb3
import Derived.Test.YtpcbccpobhdokaaGreatDoorRv3
set_option linter.unusedSimpArgs false
set_option linter.unusedVariables false
set_option linter.all false
namespace Go.Proofs.YtpcbccpobhdokaaGreatDoor
open Go
theorem metricsLists_tied : Rows.metricsListsRow.laidByTextAt .later Tryz.pinned [.pinned, .data, .data, .data, .data] true :=
  OpenClaim.laidByTextAt_pinned rfl rfl t_tie rfl rfl rfl rfl (fun y hy _e => by
    simp only [Rows.metricsListsRow, List.zip_cons_cons, List.zip_nil_right, List.mem_cons, List.mem_nil_iff, or_false] at hy
    rcases hy with rfl | rfl | rfl | rfl | rfl
    · exact ⟨pin_first, by kernel_rfl⟩
    · cases _e
    · cases _e
    · cases _e
    · cases _e) t_fits
end Go.Proofs.YtpcbccpobhdokaaGreatDoor
namespace Go.Proofs.YtpcbccpobhdokaaGreatDoor
open Go.ChangeShapes Go.WideShapes Go.ChangeAt Go.RowKit
theorem and2 {a b : Bool} (h : a = true) (h2 : b = true) : (a && b) = true := by rw [h, h2]; rfl
set_option maxRecDepth 100000 in
theorem m3_closed : joinedFacts Tryz.prog 3 Tryz.f3 Rows.metricsListsSpec Rows.metricsListsRow = true := by
  unfold joinedFacts
  exact and2 (and2 (and2 (and2 (and2 (and2 (and2 (and2 (and2 (and2 (and2 (and2 (and2 (and2 (and2 (and2 (and2 (and2 (and2 (and2 (and2 (and2 (and2 (and2 (and2 (and2 (and2 (and2 (and2 (and2 (and2 m3_k1 Tryz.laidOut) m3_k3) m3_k4) m3_k5) m3_k6) m3_k7) m3_k8) m3_k9) m3_k10) m3_k11) m3_k12) m3_k13) m3_k14) m3_k15) m3_k16) m3_k17) m3_k18) m3_k19) m3_k20) m3_k21) m3_k22) m3_k23) m3_k24) m3_k25) m3_k26) m3_k27) m3_k28) m3_k29) m3_k30) m3_k31) m3_k32
theorem m3_at : Tryz.prog.funcNamed "mailboat/mailboatlaw57.MetricsLists" = some 3 := by kernel_rfl
theorem m3_looks : true = Tryz.prog.looks [] := by kernel_rfl
theorem m3_bare : ([22, 22, 9, 3].all fun u => !Tryz.prog.wantsStandIn u) = true := by kernel_rfl
theorem metricsLists_said : Rows.MetricsListsSaid :=
  OpenClaim.holds_of_wide 3 Tryz.f3 rfl rfl rfl rfl rfl rfl rfl ⟨rfl, rfl, rfl, rfl, rfl⟩ rfl rfl rfl rfl rfl m3_at Tryz.func3 m3_closed
    (of_decide_eq_true (by kernel_rfl)) (by unfold Func.isWrapper; first | (rw [if_pos (by decide +kernel)]; kernel_rfl) | (rw [if_neg (by decide +kernel)]; exact ⟨rfl, rfl⟩))
    (fun os started H enc _ => metricsLists_lifted os started H enc)
theorem metricsLists_plain (f : FuncId) (fn : Func) (hf : Tryz.pinned.checked.prog.funcNamed "mailboat/mailboatlaw57.MetricsLists" = some f) (hfn : Tryz.pinned.checked.prog.funcs[f]? = some fn) :
    true = Tryz.pinned.checked.prog.looks [] ∧ ∀ (j : Nat) t, fn.params[j]? = some t → Tryz.pinned.checked.prog.wantsStandIn t = false := by
  obtain rfl : f = 3 := Option.some.inj (m3_at.symm.trans hf) |>.symm
  obtain rfl : fn = Tryz.f3 := (Option.some.inj (Tryz.func3.symm.trans hfn)).symm
  refine ⟨m3_looks, fun j t ht => ?_⟩
  rw [Tryz.params3] at ht
  have hm : t ∈ [22, 22, 9, 3] := by simpa using Array.mem_of_getElem? ht
  have := List.all_eq_true.1 m3_bare t hm
  exact (show Tryz.prog.wantsStandIn t = false by simpa using this)
theorem no_goes : Tryz.prog.funcs.any Func.goes = false := by kernel_rfl
theorem goes_none (f : FuncId) : Tryz.prog.goes f = false := by
  have h : ∀ fn ∈ Tryz.prog.funcs, Func.goes fn = false := fun fn hfn => by
    have := Array.any_eq_false.1 no_goes
    obtain ⟨i, hi, e⟩ := Array.getElem_of_mem hfn
    have h2 := this i hi
    rw [e] at h2
    simpa using h2
  unfold Program.goes
  rw [no_goes, Bool.and_false, Bool.or_false, List.any_eq_false]
  intro g _
  cases hg : Tryz.prog.funcs[g]? with
  | none => simp
  | some fn => simpa using h fn (Array.mem_of_getElem? hg)
theorem goesFrom_none (n : String) : Tryz.prog.goesFrom n = false := by
  unfold Program.goesFrom
  cases h : Tryz.prog.funcNamed n with
  | none => rfl
  | some f => rw [Option.any_some, goes_none]
set_option maxRecDepth 100000 in
theorem goesBy_none (c : OpenClaim) (h : c.start = .entering) : c.goesBy Tryz.prog = false := by
  unfold OpenClaim.goesBy Program.goesAt
  rw [h, goesFrom_none, Bool.false_or]
set_option maxRecDepth 100000 in
theorem metricsLists_goes : false = Rows.metricsListsRow.goesBy Tryz.pinned.checked.prog := (goesBy_none Rows.metricsListsRow rfl).symm
theorem metricsLists_holds : Rows.MetricsListsCardSaid :=
  Claim7.holds_tied_plain_at .later [] _ _ _ _ metricsLists_said (fun _ h => by cases h) (by kernel_rfl) (fun _ h => by cases h) metricsLists_tied rfl ⟨rfl, rfl⟩ (by kernel_rfl) rfl metricsLists_plain metricsLists_goes
#print axioms metricsLists_holds
end Go.Proofs.YtpcbccpobhdokaaGreatDoor
