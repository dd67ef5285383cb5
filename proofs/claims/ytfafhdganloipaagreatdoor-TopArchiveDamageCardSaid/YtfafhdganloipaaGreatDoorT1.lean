/- TopArchiveDamage: for every archive, whatever the numbers, the law returns true. Conditions: none beyond the row (the listed package variables are tied to the text). -/
import Derived.Test.YtfafhdganloipaaGreatDoorT0
import Derived.Test.YtfafhdganloipaaGreatDoorChecked
namespace Go.Proofs.YtfafhdganloipaaGreatDoor
open Go.ChangeShapes Go.WideShapes Go.ChangeAt Go.RowKit
set_option maxRecDepth 100000 in
theorem topArchiveDamage_lifted (os : Os) (started : os.Started) (H : Type) (enc : TypeId × Value → H) :
    ReturnsInHanded {} Tryz.checked os 3 .any (fun w args => (Rows.topArchiveDamageSpec.pre enc Tryz.prog Tryz.f3 Rows.topArchiveDamageRow.domain false w args ∧ laidMetH Tryz.prog Rows.topArchiveDamageRow.laid w) ∧ sizedMet enc Tryz.prog Tryz.f3 (OpenSpec.ofChange Rows.topArchiveDamageSpec) false w args)
      (Rows.topArchiveDamageSpec.post enc Tryz.prog Tryz.f3 false true false false) :=
  returns_laid_shaped (C := Tryz.checked) (X := fun w _ => laidMetH Tryz.prog Rows.topArchiveDamageRow.laid w) (fun _ _ _ hh h => h.of_heap hh) Tryz.own started (by kernel_rfl) Tryz.func3
    (ChangeSpec.witness_shaped (enc := enc) (C := Tryz.checked) (os := os) (X := fun w _ => laidMetH Tryz.prog Rows.topArchiveDamageRow.laid w) false (World.laidAll Tryz.prog os Rows.topArchiveDamageRow.laid) #[.agg #[.string ⟨#[]⟩, .string ⟨#[]⟩, .slice none 0 0, .slice none 0 0, .slice none 0 0], .int .u16 0, .int .u8 0, .int .u16 0] 8 (World.laidAll_os _ _ _)
      (World.shaped_of_ZipB (by kernel_rfl) (by kernel_rfl)) (by kernel_rfl) (by kernel_rfl) (by kernel_rfl)
      (by rw [MakeChecks.laidMetH_plain _ _ _ (by kernel_rfl)]; exact laidMet_laidAll _ (by kernel_rfl) (by kernel_rfl)))
    (fun W base args ds gs before hval hW _ _ hL hsh => ta_contract W base args ds gs before hval hW hL hsh)
end Go.Proofs.YtfafhdganloipaaGreatDoor
