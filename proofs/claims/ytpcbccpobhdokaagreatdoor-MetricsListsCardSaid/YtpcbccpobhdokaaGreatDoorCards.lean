/-
  DERIVED. GIVEN WITH THE SEED: THE CARDS: each row of YtpcbccpobhdokaaGreatDoorRows.lean that lists a variable, with what it lists TIED to the program's text (the seventh form; the later family's looks); each row that meets fmt, with fmt's text TOLD by the authors' own Lean function (tested against real Go, not proved from fmt's source: count such statements apart). THE CARD IS WHAT COUNTS. Prove the row's statement (the work); the ties are given (YtpcbccpobhdokaaGreatDoorTie.lean); close each card by the builder's one call (the guide's Derived/Test/ToyasCard.lean, 'card_holds'). Laid BY PROGRAM, IN A SANDBOX (cutbox-door.mjs). By AI agents, Wed Nov 11 2026. No macro, syntax, notation, axiom, sorry.
-/
import Derived.Test.YtpcbccpobhdokaaGreatDoorRows
import GoSem.ClaimSeven
namespace Go.Proofs.YtpcbccpobhdokaaGreatDoor
namespace Rows

/-- THE TIED CARD OF 'mailboatlaw57.MetricsLists'. -/
def metricsListsCard : Claim7 := { stood := { row := metricsListsRow, standIns := [], harness := (true, "6e98c8798d9cb1e7bbd839a6a399c897e7cbd96bb6adb52ea81eebbd0350a1e5"), looks := true }, kinds := [], alts := [], laidByText := true, laidKinds := [.pinned, .data, .data, .data, .data], laidTests := true, laidLooks := .later }
def MetricsListsCardSaid : Prop := Claim7.holds Tryz.pinned (.plain (OpenSpec.ofChange metricsListsSpec)) metricsListsCard

/-- THE TIED CARD OF 'mailboatlaw57.MetricsMany'. -/
def metricsManyCard : Claim7 := { stood := { row := metricsManyRow, standIns := [], harness := (true, "6e98c8798d9cb1e7bbd839a6a399c897e7cbd96bb6adb52ea81eebbd0350a1e5"), looks := true }, kinds := [], alts := [], laidByText := true, laidKinds := [.pinned, .data, .data, .data, .data], laidTests := true, laidLooks := .later }
def MetricsManyCardSaid : Prop := Claim7.holds Tryz.pinned (.plain (OpenSpec.ofChange metricsManySpec)) metricsManyCard

/-- THE TIED CARD OF 'mailboatlaw57.MetricsMerging'. -/
def metricsMergingCard : Claim7 := { stood := { row := metricsMergingRow, standIns := [], harness := (true, "6e98c8798d9cb1e7bbd839a6a399c897e7cbd96bb6adb52ea81eebbd0350a1e5"), looks := true }, kinds := [], alts := [], laidByText := true, laidKinds := [.pinned, .data, .data, .data, .data], laidTests := true, laidLooks := .later }
def MetricsMergingCardSaid : Prop := Claim7.holds Tryz.pinned (.plain (OpenSpec.ofChange metricsMergingSpec)) metricsMergingCard

/-- THE TIED CARD OF 'mailboatlaw57.MetricsTexts'. -/
def metricsTextsCard : Claim7 := { stood := { row := metricsTextsRow, standIns := [], harness := (true, "6e98c8798d9cb1e7bbd839a6a399c897e7cbd96bb6adb52ea81eebbd0350a1e5"), looks := true }, kinds := [], alts := [], laidByText := true, laidKinds := [.pinned, .data, .data, .data, .data], laidTests := true, laidLooks := .later }
def MetricsTextsCardSaid : Prop := Claim7.holds Tryz.pinned (.plain (OpenSpec.ofChange metricsTextsSpec)) metricsTextsCard

/-- THE SECOND FORM's CARD OF 'mailboatlaw57.MetricsLists'. -/
def metricsListsUptoCard : Claim7 := { stood := { row := metricsListsUptoRow, standIns := [], harness := (true, "6e98c8798d9cb1e7bbd839a6a399c897e7cbd96bb6adb52ea81eebbd0350a1e5"), looks := true }, kinds := [], alts := [], laidByText := true, laidKinds := [.pinned, .data, .data, .data, .data], laidTests := true, laidLooks := .later }
def MetricsListsUptoCardSaid : Prop := Claim7.holds Tryz.pinned (.plain (OpenSpec.upto metricsListsSpec)) metricsListsUptoCard

/-- THE SECOND FORM's CARD OF 'mailboatlaw57.MetricsMany'. -/
def metricsManyUptoCard : Claim7 := { stood := { row := metricsManyUptoRow, standIns := [], harness := (true, "6e98c8798d9cb1e7bbd839a6a399c897e7cbd96bb6adb52ea81eebbd0350a1e5"), looks := true }, kinds := [], alts := [], laidByText := true, laidKinds := [.pinned, .data, .data, .data, .data], laidTests := true, laidLooks := .later }
def MetricsManyUptoCardSaid : Prop := Claim7.holds Tryz.pinned (.plain (OpenSpec.upto metricsManySpec)) metricsManyUptoCard

/-- THE SECOND FORM's CARD OF 'mailboatlaw57.MetricsMerging'. -/
def metricsMergingUptoCard : Claim7 := { stood := { row := metricsMergingUptoRow, standIns := [], harness := (true, "6e98c8798d9cb1e7bbd839a6a399c897e7cbd96bb6adb52ea81eebbd0350a1e5"), looks := true }, kinds := [], alts := [], laidByText := true, laidKinds := [.pinned, .data, .data, .data, .data], laidTests := true, laidLooks := .later }
def MetricsMergingUptoCardSaid : Prop := Claim7.holds Tryz.pinned (.plain (OpenSpec.upto metricsMergingSpec)) metricsMergingUptoCard

/-- THE SECOND FORM's CARD OF 'mailboatlaw57.MetricsTexts'. -/
def metricsTextsUptoCard : Claim7 := { stood := { row := metricsTextsUptoRow, standIns := [], harness := (true, "6e98c8798d9cb1e7bbd839a6a399c897e7cbd96bb6adb52ea81eebbd0350a1e5"), looks := true }, kinds := [], alts := [], laidByText := true, laidKinds := [.pinned, .data, .data, .data, .data], laidTests := true, laidLooks := .later }
def MetricsTextsUptoCardSaid : Prop := Claim7.holds Tryz.pinned (.plain (OpenSpec.upto metricsTextsSpec)) metricsTextsUptoCard
end Rows
end Go.Proofs.YtpcbccpobhdokaaGreatDoor
