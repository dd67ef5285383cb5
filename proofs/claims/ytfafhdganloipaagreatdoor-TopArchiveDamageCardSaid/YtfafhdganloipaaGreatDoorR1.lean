/- TopArchiveDamage: the facts of the row, one by one. -/
import Derived.Test.YtfafhdganloipaaGreatDoorCards
import Derived.Test.YtfafhdganloipaaGreatDoorRows
import Derived.Test.YtfafhdganloipaaGreatDoorRc
import Derived.ProofKit
import Derived.OpenShut
import Derived.JoinedCond
import Derived.LaidMore
import Derived.Lay
import Derived.SevenTiedAt
import Derived.Stop.Joined
import Derived.Deep.Matrix
import Derived.Deep.Slices
import Derived.HandedShaped
import Derived.Shelf.Vars
namespace Go.Proofs.YtfafhdganloipaaGreatDoor
open Go.ChangeShapes Go.WideShapes Go.ChangeAt Go.RowKit
set_option maxRecDepth 1000000 in
theorem ta_k1 : (Rows.topArchiveDamageRow.wf (OpenSpec.ofChange Rows.topArchiveDamageSpec)) = true := by kernel_rfl
set_option maxRecDepth 1000000 in
theorem ta_k3 : (mapsRowed Tryz.prog) = true := by kernel_rfl
set_option maxRecDepth 1000000 in
theorem ta_k4 : (Tryz.f3.params.all (Tryz.prog.readableRec ·)) = true := by kernel_rfl
set_option maxRecDepth 1000000 in
theorem ta_k5 : (namedTie Tryz.prog Rows.topArchiveDamageRow.named Rows.topArchiveDamageSpec.vars) = true := by kernel_rfl
set_option maxRecDepth 1000000 in
theorem ta_k6 : (Rows.topArchiveDamageRow.stops == []) = true := by kernel_rfl
set_option maxRecDepth 1000000 in
theorem ta_k7 : (Tryz.prog.stops == []) = true := by kernel_rfl
set_option maxRecDepth 1000000 in
theorem ta_k8 : (Rows.topArchiveDamageRow.knobs == []) = true := by kernel_rfl
set_option maxRecDepth 1000000 in
theorem ta_k9 : (Tryz.prog.stopKnobs == []) = true := by kernel_rfl
set_option maxRecDepth 1000000 in
theorem ta_k14 : (Rows.topArchiveDamageRow.maps == (Tryz.f3.params.toList ++ Rows.topArchiveDamageSpec.plain.varTypes Tryz.prog).any (Tryz.prog.mapsRec ·)) = true := by kernel_rfl
set_option maxRecDepth 1000000 in
theorem ta_k15 : (Rows.topArchiveDamageRow.ifaces == (Tryz.f3.params.toList ++ Rows.topArchiveDamageSpec.plain.varTypes Tryz.prog).any (Tryz.prog.ifacesRec ·)) = true := by kernel_rfl
set_option maxRecDepth 1000000 in
theorem ta_k16 : (Rows.topArchiveDamageRow.mapsOut == Tryz.prog.mapsAmong Tryz.f3.resultTypes.toList) = true := by kernel_rfl
set_option maxRecDepth 1000000 in
theorem ta_k17 : (Rows.topArchiveDamageRow.loops == (Tryz.f3.params.toList ++ Rows.topArchiveDamageSpec.plain.varTypes Tryz.prog).any (Tryz.prog.loopsFrom ·)) = true := by kernel_rfl
set_option maxRecDepth 1000000 in
theorem ta_k18 : (Rows.topArchiveDamageRow.wideKeys == (Tryz.f3.params.toList ++ Rows.topArchiveDamageSpec.plain.varTypes Tryz.prog ++ Tryz.f3.resultTypes.toList).any (Tryz.prog.wideKeysFrom ·)) = true := by kernel_rfl
set_option maxRecDepth 1000000 in
theorem ta_k19 : (Rows.topArchiveDamageSpec.vars.all (Tryz.prog.varReadable ·)) = true := by kernel_rfl
set_option maxRecDepth 1000000 in
theorem ta_k20 : (Tryz.f3.resultTypes.all (fun t => Tryz.prog.readableRec t && decide (t < Tryz.prog.types.size))) = true := by kernel_rfl
set_option maxRecDepth 1000000 in
theorem ta_k21 : (Rows.topArchiveDamageRow.ifacesOut == Tryz.f3.resultTypes.toList.any (Tryz.prog.ifacesRec ·)) = true := by kernel_rfl
set_option maxRecDepth 1000000 in
theorem ta_k22 : (Rows.topArchiveDamageRow.loopsOut == Tryz.f3.resultTypes.toList.any (Tryz.prog.loopsFrom ·)) = true := by kernel_rfl
set_option maxRecDepth 1000000 in
theorem ta_k23 : (Rows.topArchiveDamageRow.plainKeys == Tryz.prog.plainKeys) = true := by kernel_rfl
set_option maxRecDepth 1000000 in
theorem ta_k24 : (Rows.topArchiveDamageRow.shortTexts.isNone) = true := by kernel_rfl
set_option maxRecDepth 1000000 in
theorem ta_k25 : (Tryz.prog.stopsHeard) = true := by kernel_rfl
set_option maxRecDepth 1000000 in
theorem ta_k26 : (Tryz.prog.mayEnter) = true := by kernel_rfl
set_option maxRecDepth 1000000 in
theorem ta_k27 : (Rows.topArchiveDamageRow.lifted == Tryz.prog.liftsFinal) = true := by kernel_rfl
set_option maxRecDepth 1000000 in
theorem ta_k28 : (Tryz.prog.make == some Rows.topArchiveDamageRow.make) = true := by kernel_rfl
set_option maxRecDepth 1000000 in
theorem ta_k29 : (Rows.topArchiveDamageRow.kinds == (if Rows.topArchiveDamageRow.domain.isEmpty then [] else Tryz.f3.params.toList.map fun t => match Tryz.prog.underlying t with | some (.int k) => some k | _ => none)) = true := by kernel_rfl
set_option maxRecDepth 1000000 in
theorem ta_k30 : (Rows.topArchiveDamageRow.pinned == Rows.topArchiveDamageRow.pinnedBy) = true := by kernel_rfl
set_option maxRecDepth 1000000 in
theorem ta_k31 : (Rows.topArchiveDamageRow.veiled == (Tryz.f3.params.toList ++ Rows.topArchiveDamageSpec.plain.varTypes Tryz.prog ++ Tryz.f3.resultTypes.toList).any (Tryz.prog.veiledRec ·)) = true := by kernel_rfl
set_option maxRecDepth 1000000 in
theorem ta_k32 : (Rows.topArchiveDamageRow.veiledFits Tryz.prog Tryz.f3.params.toList (Tryz.f3.params.toList ++ Rows.topArchiveDamageSpec.plain.varTypes Tryz.prog ++ Tryz.f3.resultTypes.toList)) = true := by kernel_rfl
end Go.Proofs.YtfafhdganloipaaGreatDoor
