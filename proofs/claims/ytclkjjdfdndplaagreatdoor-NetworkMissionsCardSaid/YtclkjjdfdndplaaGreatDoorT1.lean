/- NetworkMissions: the row's closed facts. -/
import Derived.Test.YtclkjjdfdndplaaGreatDoorT0
import Derived.Test.YtclkjjdfdndplaaGreatDoorR1
import Derived.Test.YtclkjjdfdndplaaGreatDoorR2
namespace Go.Proofs.YtclkjjdfdndplaaGreatDoor
open Go.ChangeShapes Go.WideShapes Go.ChangeAt Go.RowKit
theorem and2 {a b : Bool} (h : a = true) (h2 : b = true) : (a && b) = true := by rw [h, h2]; rfl
set_option maxRecDepth 100000 in
theorem nm_closed : joinedFacts Tryz.prog 3 Tryz.f3 Rows.networkMissionsSpec Rows.networkMissionsRow = true := by
  unfold joinedFacts
  exact and2 (and2 (and2 (and2 (and2 (and2 (and2 (and2 (and2 (and2 (and2 (and2 (and2 (and2 (and2 (and2 (and2 (and2 (and2 (and2 (and2 (and2 (and2 (and2 (and2 (and2 (and2 (and2 (and2 (and2 (and2 nm_k1 Tryz.laidOut) nm_k3) nm_k4) nm_k5) nm_k6) nm_k7) nm_k8) nm_k9) nm_k10) nm_k11) nm_k12) nm_k13) nm_k14) nm_k15) nm_k16) nm_k17) nm_k18) nm_k19) nm_k20) nm_k21) nm_k22) nm_k23) nm_k24) nm_k25) nm_k26) nm_k27) nm_k28) nm_k29) nm_k30) nm_k31) nm_k32
theorem nm_at : Tryz.prog.funcNamed "mailboat/mailboatlaw49.NetworkMissions" = some 3 := by kernel_rfl
theorem nm_looks : true = Tryz.prog.looks [] := by kernel_rfl
theorem nm_bare : ([30].all fun u => !Tryz.prog.wantsStandIn u) = true := by kernel_rfl
theorem networkMissions_said : Rows.NetworkMissionsSaid :=
  OpenClaim.holds_of_wide 3 Tryz.f3 rfl rfl rfl rfl rfl rfl rfl ⟨rfl, rfl, rfl, rfl, rfl⟩ rfl rfl rfl rfl rfl nm_at Tryz.func3 nm_closed
    (of_decide_eq_true (by kernel_rfl)) (by unfold Func.isWrapper; first | (rw [if_pos (by decide +kernel)]; kernel_rfl) | (rw [if_neg (by decide +kernel)]; exact ⟨rfl, rfl⟩))
    (fun os started H enc _ => networkMissions_lifted os started H enc)
theorem networkMissions_plain (f : FuncId) (fn : Func) (hf : Tryz.pinned.checked.prog.funcNamed "mailboat/mailboatlaw49.NetworkMissions" = some f) (hfn : Tryz.pinned.checked.prog.funcs[f]? = some fn) :
    true = Tryz.pinned.checked.prog.looks [] ∧ ∀ (j : Nat) t, fn.params[j]? = some t → Tryz.pinned.checked.prog.wantsStandIn t = false := by
  obtain rfl : f = 3 := Option.some.inj (nm_at.symm.trans hf) |>.symm
  obtain rfl : fn = Tryz.f3 := (Option.some.inj (Tryz.func3.symm.trans hfn)).symm
  refine ⟨nm_looks, fun j t ht => ?_⟩
  rw [Tryz.params3] at ht
  have hm : t ∈ [30] := by simpa using Array.mem_of_getElem? ht
  have := List.all_eq_true.1 nm_bare t hm
  exact (show Tryz.prog.wantsStandIn t = false by simpa using this)
theorem no_goes : Tryz.prog.funcs.any Func.goes = false := by kernel_rfl
theorem goes_none (f : FuncId) : Tryz.prog.goes f = false := by
  have h : ∀ fn ∈ Tryz.prog.funcs, Func.goes fn = false := fun fn hfn => by
    have := Array.any_eq_false.1 no_goes
    obtain ⟨i, hi, e⟩ := Array.getElem_of_mem hfn
    have h2 := this i hi
    rw [e] at h2
    simpa using h2
  unfold Program.goes
  rw [no_goes, Bool.and_false, Bool.or_false, List.any_eq_false]
  intro g _
  cases hg : Tryz.prog.funcs[g]? with
  | none => simp
  | some fn => simpa using h fn (Array.mem_of_getElem? hg)
theorem goesFrom_none (n : String) : Tryz.prog.goesFrom n = false := by
  unfold Program.goesFrom
  cases h : Tryz.prog.funcNamed n with
  | none => rfl
  | some f => rw [Option.any_some, goes_none]
set_option maxRecDepth 100000 in
theorem goesBy_none (c : OpenClaim) (h : c.start = .entering) : c.goesBy Tryz.prog = false := by
  unfold OpenClaim.goesBy Program.goesAt
  rw [h, goesFrom_none, Bool.false_or]
set_option maxRecDepth 100000 in
theorem networkMissions_goes : false = Rows.networkMissionsRow.goesBy Tryz.pinned.checked.prog := (goesBy_none Rows.networkMissionsRow rfl).symm
theorem networkMissions_holds : Rows.NetworkMissionsCardSaid :=
  Claim7.holds_tied_plain_at .later [] _ _ _ _ networkMissions_said (fun _ h => by cases h) (by kernel_rfl) (fun _ h => by cases h) networkMissions_row_tie rfl ⟨rfl, rfl⟩ (by kernel_rfl) rfl networkMissions_plain networkMissions_goes
#print axioms networkMissions_holds
end Go.Proofs.YtclkjjdfdndplaaGreatDoor
