/- TopArchiveDamage: the row's closed facts. -/
import Derived.Test.YtfafhdganloipaaGreatDoorT1
import Derived.Test.YtfafhdganloipaaGreatDoorR1
import Derived.Test.YtfafhdganloipaaGreatDoorR2
import Derived.Test.YtfafhdganloipaaGreatDoorTa
namespace Go.Proofs.YtfafhdganloipaaGreatDoor
open Go.ChangeShapes Go.WideShapes Go.ChangeAt Go.RowKit
theorem and2 {a b : Bool} (h : a = true) (h2 : b = true) : (a && b) = true := by rw [h, h2]; rfl
set_option maxRecDepth 100000 in
theorem ta_closed : joinedFacts Tryz.prog 3 Tryz.f3 Rows.topArchiveDamageSpec Rows.topArchiveDamageRow = true := by
  unfold joinedFacts
  exact and2 (and2 (and2 (and2 (and2 (and2 (and2 (and2 (and2 (and2 (and2 (and2 (and2 (and2 (and2 (and2 (and2 (and2 (and2 (and2 (and2 (and2 (and2 (and2 (and2 (and2 (and2 (and2 (and2 (and2 (and2 ta_k1 Tryz.laidOut) ta_k3) ta_k4) ta_k5) ta_k6) ta_k7) ta_k8) ta_k9) ta_k10) ta_k11) ta_k12) ta_k13) ta_k14) ta_k15) ta_k16) ta_k17) ta_k18) ta_k19) ta_k20) ta_k21) ta_k22) ta_k23) ta_k24) ta_k25) ta_k26) ta_k27) ta_k28) ta_k29) ta_k30) ta_k31) ta_k32
theorem ta_at : Tryz.prog.funcNamed "mailboat/mailboattop.TopArchiveDamage" = some 3 := by kernel_rfl
theorem ta_looks : true = Tryz.prog.looks [] := by kernel_rfl
theorem ta_bare : ([26, 27, 5, 27].all fun u => !Tryz.prog.wantsStandIn u) = true := by kernel_rfl
theorem topArchiveDamage_said : Rows.TopArchiveDamageSaid :=
  OpenClaim.holds_of_wide 3 Tryz.f3 rfl rfl rfl rfl rfl rfl rfl ⟨rfl, rfl, rfl, rfl, rfl⟩ rfl rfl rfl rfl rfl ta_at Tryz.func3 ta_closed
    (of_decide_eq_true (by kernel_rfl)) (by unfold Func.isWrapper; first | (rw [if_pos (by decide +kernel)]; kernel_rfl) | (rw [if_neg (by decide +kernel)]; exact ⟨rfl, rfl⟩))
    (fun os started H enc _ => topArchiveDamage_lifted os started H enc)
theorem topArchiveDamage_plain (f : FuncId) (fn : Func) (hf : Tryz.pinned.checked.prog.funcNamed "mailboat/mailboattop.TopArchiveDamage" = some f) (hfn : Tryz.pinned.checked.prog.funcs[f]? = some fn) :
    true = Tryz.pinned.checked.prog.looks [] ∧ ∀ (j : Nat) t, fn.params[j]? = some t → Tryz.pinned.checked.prog.wantsStandIn t = false := by
  obtain rfl : f = 3 := Option.some.inj (ta_at.symm.trans hf) |>.symm
  obtain rfl : fn = Tryz.f3 := (Option.some.inj (Tryz.func3.symm.trans hfn)).symm
  refine ⟨ta_looks, fun j t ht => ?_⟩
  rw [Tryz.params3] at ht
  have hm : t ∈ [26, 27, 5, 27] := by simpa using Array.mem_of_getElem? ht
  have := List.all_eq_true.1 ta_bare t hm
  exact (show Tryz.prog.wantsStandIn t = false by simpa using this)
theorem no_goes : Tryz.prog.funcs.any Func.goes = false := by kernel_rfl
theorem goes_none (f : FuncId) : Tryz.prog.goes f = false := by
  have h : ∀ fn ∈ Tryz.prog.funcs, Func.goes fn = false := fun fn hfn => by
    have := Array.any_eq_false.1 no_goes
    obtain ⟨i, hi, e⟩ := Array.getElem_of_mem hfn
    have h2 := this i hi
    rw [e] at h2
    simpa using h2
  unfold Program.goes
  rw [no_goes, Bool.and_false, Bool.or_false, List.any_eq_false]
  intro g _
  cases hg : Tryz.prog.funcs[g]? with
  | none => simp
  | some fn => simpa using h fn (Array.mem_of_getElem? hg)
theorem goesFrom_none (n : String) : Tryz.prog.goesFrom n = false := by
  unfold Program.goesFrom
  cases h : Tryz.prog.funcNamed n with
  | none => rfl
  | some f => rw [Option.any_some, goes_none]
set_option maxRecDepth 100000 in
theorem goesBy_none (c : OpenClaim) (h : c.start = .entering) : c.goesBy Tryz.prog = false := by
  unfold OpenClaim.goesBy Program.goesAt
  rw [h, goesFrom_none, Bool.false_or]
set_option maxRecDepth 100000 in
theorem topArchiveDamage_goes : false = Rows.topArchiveDamageRow.goesBy Tryz.pinned.checked.prog := (goesBy_none Rows.topArchiveDamageRow rfl).symm
theorem topArchiveDamage_holds : Rows.TopArchiveDamageCardSaid :=
  Claim7.holds_tied_plain_at .later [] _ _ _ _ topArchiveDamage_said (fun _ h => by cases h) (by kernel_rfl) (fun _ h => by cases h) topArchiveDamage_tied rfl ⟨rfl, rfl⟩ (by kernel_rfl) rfl topArchiveDamage_plain topArchiveDamage_goes
#print axioms topArchiveDamage_holds
end Go.Proofs.YtfafhdganloipaaGreatDoor
