/- ArchiveEqual: the row's closed facts. -/
import Derived.Test.YthlfhfliidhelaaGreatDoorT13
import Derived.Test.YthlfhfliidhelaaGreatDoorCards
import Derived.Test.YthlfhfliidhelaaGreatDoorRb3
import Derived.Test.YthlfhfliidhelaaGreatDoorRv3
import Derived.Test.YthlfhfliidhelaaGreatDoorTa
set_option linter.unusedSimpArgs false
set_option linter.unusedVariables false
set_option linter.all false
namespace Go.Proofs.YthlfhfliidhelaaGreatDoor
open Go.ChangeShapes Go.WideShapes Go.ChangeAt Go.RowKit
theorem and2 {a b : Bool} (h : a = true) (h2 : b = true) : (a && b) = true := by rw [h, h2]; rfl
set_option maxRecDepth 100000 in
theorem a3_closed : joinedFacts Tryz.prog 3 Tryz.f3 Rows.archiveEqualSpec Rows.archiveEqualRow = true := by
  unfold joinedFacts
  exact and2 (and2 (and2 (and2 (and2 (and2 (and2 (and2 (and2 (and2 (and2 (and2 (and2 (and2 (and2 (and2 (and2 (and2 (and2 (and2 (and2 (and2 (and2 (and2 (and2 (and2 (and2 (and2 (and2 (and2 (and2 a3_k1 Tryz.laidOut) a3_k3) a3_k4) a3_k5) a3_k6) a3_k7) a3_k8) a3_k9) a3_k10) a3_k11) a3_k12) a3_k13) a3_k14) a3_k15) a3_k16) a3_k17) a3_k18) a3_k19) a3_k20) a3_k21) a3_k22) a3_k23) a3_k24) a3_k25) a3_k26) a3_k27) a3_k28) a3_k29) a3_k30) a3_k31) a3_k32
theorem a3_at : Tryz.prog.funcNamed "mailboat/mailboatlaw60.ArchiveEqual" = some 3 := by kernel_rfl
theorem a3_looks : true = Tryz.prog.looks [] := by kernel_rfl
theorem a3_bare : ([26, 26].all fun u => !Tryz.prog.wantsStandIn u) = true := by kernel_rfl
theorem archiveEqual_said : Rows.ArchiveEqualSaid :=
  OpenClaim.holds_of_wide 3 Tryz.f3 rfl rfl rfl rfl rfl rfl rfl ⟨rfl, rfl, rfl, rfl, rfl⟩ rfl rfl rfl rfl rfl a3_at Tryz.func3 a3_closed
    (of_decide_eq_true (by kernel_rfl)) (by unfold Func.isWrapper; first | (rw [if_pos (by decide +kernel)]; kernel_rfl) | (rw [if_neg (by decide +kernel)]; exact ⟨rfl, rfl⟩))
    (fun os started H enc _ => archiveEqual_lifted os started H enc)
theorem archiveEqual_plain (f : FuncId) (fn : Func) (hf : Tryz.pinned.checked.prog.funcNamed "mailboat/mailboatlaw60.ArchiveEqual" = some f) (hfn : Tryz.pinned.checked.prog.funcs[f]? = some fn) :
    true = Tryz.pinned.checked.prog.looks [] ∧ ∀ (j : Nat) t, fn.params[j]? = some t → Tryz.pinned.checked.prog.wantsStandIn t = false := by
  obtain rfl : f = 3 := Option.some.inj (a3_at.symm.trans hf) |>.symm
  obtain rfl : fn = Tryz.f3 := (Option.some.inj (Tryz.func3.symm.trans hfn)).symm
  refine ⟨a3_looks, fun j t ht => ?_⟩
  rw [Tryz.params3] at ht
  have hm : t ∈ [26, 26] := by simpa using Array.mem_of_getElem? ht
  have := List.all_eq_true.1 a3_bare t hm
  exact (show Tryz.prog.wantsStandIn t = false by simpa using this)
theorem no_goes : Tryz.prog.funcs.any Func.goes = false := by kernel_rfl
theorem goes_none (f : FuncId) : Tryz.prog.goes f = false := by
  have h : ∀ fn ∈ Tryz.prog.funcs, Func.goes fn = false := fun fn hfn => by
    have := Array.any_eq_false.1 no_goes
    obtain ⟨i, hi, e⟩ := Array.getElem_of_mem hfn
    have h2 := this i hi
    rw [e] at h2
    simpa using h2
  unfold Program.goes
  rw [no_goes, Bool.and_false, Bool.or_false, List.any_eq_false]
  intro g _
  cases hg : Tryz.prog.funcs[g]? with
  | none => simp
  | some fn => simpa using h fn (Array.mem_of_getElem? hg)
theorem goesFrom_none (n : String) : Tryz.prog.goesFrom n = false := by
  unfold Program.goesFrom
  cases h : Tryz.prog.funcNamed n with
  | none => rfl
  | some f => rw [Option.any_some, goes_none]
set_option maxRecDepth 100000 in
theorem goesBy_none (c : OpenClaim) (h : c.start = .entering) : c.goesBy Tryz.prog = false := by
  unfold OpenClaim.goesBy Program.goesAt
  rw [h, goesFrom_none, Bool.false_or]
set_option maxRecDepth 100000 in
theorem archiveEqual_goes : false = Rows.archiveEqualRow.goesBy Tryz.pinned.checked.prog := (goesBy_none Rows.archiveEqualRow rfl).symm
theorem archiveEqual_holds : Rows.ArchiveEqualCardSaid :=
  Claim7.holds_tied_plain_at .later [] _ _ _ _ archiveEqual_said (fun _ h => by cases h) (by kernel_rfl) (fun _ h => by cases h) archiveEqual_tied rfl ⟨rfl, rfl⟩ (by kernel_rfl) rfl archiveEqual_plain archiveEqual_goes
#print axioms archiveEqual_holds
end Go.Proofs.YthlfhfliidhelaaGreatDoor
