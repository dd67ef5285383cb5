/- The calls of the example that have answers of their own: metrics.name and metrics.Of. -/
import Derived.Test.YtpcbccpobhdokaaGreatDoorN1
import Derived.Test.YtpcbccpobhdokaaGreatDoorM6
import Derived.Test.YtpcbccpobhdokaaGreatDoorEh
set_option linter.unusedSimpArgs false
set_option linter.unusedVariables false
set_option linter.all false
namespace Go.Proofs.YtpcbccpobhdokaaGreatDoor
open Go.RowKit Go.Sort Go.Shelf
open Go.Proofs.YtpcbccpobhdokaaGreatDoor.Eng
noncomputable def kName (args : List Value) (H : AH) : RO := match args with
  | [.string s] => .ok (.bool (nameB s)) H
  | _ => .bad
theorem known36 : KnownOk Tryz.prog 6 36 kName := by
  intro args H v H' hv base w0 J w args' hargs hw
  unfold kName at hv
  split at hv
  · rename_i s
    injection hv with h1 h2
    subst h1 h2
    cases hargs with
    | cons _ x' _ l h3 h => cases h with
      | nil =>
        cases h3
        refine .inl ⟨_, enters_of Tryz.func36 (by kernel_rfl) rfl _ _, callsIn_wide.2 ((name_any s w).mono ?_)⟩
        rintro e w' ⟨rfl, hb⟩
        exact ⟨_, rfl, J, .bool _, hw.more hb, Ev.more hb⟩
  · cases hv
noncomputable def K1 : Known := fun g => Bool.rec (K0 g) (some kName) (Nat.beq g 36)
theorem hyp1 : Hyp Tryz.prog 6 K1 where
  mixed := hyp0.mixed
  funcs := fun f fn hf => by
    unfold K1 at hf
    cases h : Nat.beq f 36 with
    | true => rw [h] at hf; cases hf
    | false => rw [h] at hf; exact hyp0.funcs f fn hf
  known := fun f h hf => by
    unfold K1 at hf
    cases hb : Nat.beq f 36 with
    | false => rw [hb] at hf; exact hyp0.known f h hf
    | true =>
      rw [hb] at hf
      rw [Nat.beq_eq] at hb
      subst hb
      obtain rfl := Option.some.inj hf
      exact known36
noncomputable def mOf : Memo where
  args := A21
  nx := 3900
  li := L21
  v := .tuple ⟨[SLV, .int .i64 (.ofNat 0)]⟩
  nx' := 4082
  lo := liT
theorem mOf_sem : mOf.Sem Tryz.prog 6 21 where
  sem := ⟨HT, of_sem, by kernel_rfl, by kernel_rfl⟩
  names := by kernel_rfl
noncomputable def K21 : Known := withM K1 21 [mOf]
theorem hyp21 : Hyp Tryz.prog 6 K21 :=
  Hyp.withS hyp1 (List.forall_mem_cons.2 ⟨mOf_sem, fun _ h => absurd h List.not_mem_nil⟩) ⟨_, bodyOf Tryz.f21, Tryz.func21, by kernel_rfl, by kernel_rfl⟩
#print axioms hyp21
end Go.Proofs.YtpcbccpobhdokaaGreatDoor
