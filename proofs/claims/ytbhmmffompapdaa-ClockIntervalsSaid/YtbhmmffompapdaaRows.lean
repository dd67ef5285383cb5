/-
  No cell of these rows narrows 'for every input' (looked for: loops, veiled, ifaces, maps, wideKeys, modest, calm, conditions, laid).
  DERIVED. THE GIVEN ROWS OF THIS SEAT. 4 by the template 'for every input the law returns true; each argument reads behind the call as it read before'; 0 by the template 'total and deterministic' (their statements: YtbhmmffompapdaaTotals.lean).
  GIVEN WITH THE SEED: the statements are not yours to turn. If you find one false, say at which input.
  Laid BY PROGRAM, IN A SANDBOX (cutbox-rows.mjs): the forced cells as the released guide's own fill.sh prints them over the translation 96a41b8ec603989d… (all of the seat's roots in one cut). By AI agents, Wed Nov 11 2026. No macro, syntax, notation, axiom, sorry.
-/
import Derived.Test.YtbhmmffompapdaaChecked
import GoSem.Claim
import GoSem.ClaimJoined
import GoSem.ClaimMapViews
import Derived.JoinedTies
import Derived.KernelRfl
namespace Go.Proofs.Ytbhmmffompapdaa
/- THE CELL 'sum', in the pinned program and in every row, IS THE sha256 OF THE DUMP (.gsa) THAT YtbhmmffompapdaaProg.lean LOADS. Nothing in Lean hashes anything: it is a label: what it is worth is what the hold of that sum in a sandbox is worth. -/
noncomputable def Try.pinned : Pinned := { name := "ytbhmmffompapdaa", sum := "96a41b8ec603989d84945ba9e92b0ebfcd760c415b2818a91ee942d0c849e7c8", checked := Try.checked }
namespace Rows
def none {H : Type} : Left H := { results := [], args := [] }

/-- 'mailboatlaw45.ClockTimes': WHATEVER THE INPUT: true; the input reads as it did. -/
def clockTimesSpec : ChangeSpec := { name := "clockTimes", fn := fun _ => fun
  | [d1, d2] => { results := [.lit (.bool true)], args := [d1, d2] }
  | _ => none }
def clockTimesRow : OpenClaim := { program := "ytbhmmffompapdaa", sum := "96a41b8ec603989d84945ba9e92b0ebfcd760c415b2818a91ee942d0c849e7c8", func := "mailboat/mailboatlaw45.ClockTimes", spec := "clockTimes", unfollowed := true, recurses := true, apart := false }
def ClockTimesSaid : Prop := clockTimesRow.holds Try.pinned (OpenSpec.ofChange clockTimesSpec)

/-- ITS FALSE NEIGHBOUR: 'it returns false'. Refute it at one input. -/
def clockTimesWrong : ChangeSpec := { name := "clockTimes", fn := fun _ => fun
  | [d1, d2] => { results := [.lit (.bool false)], args := [d1, d2] }
  | _ => none }
def ClockTimesWrongFalsely : Prop := clockTimesRow.holds Try.pinned (OpenSpec.ofChange clockTimesWrong)

/-- 'mailboatlaw45.ClockMonotone': WHATEVER THE INPUT: true; the input reads as it did. -/
def clockMonotoneSpec : ChangeSpec := { name := "clockMonotone", fn := fun _ => fun
  | [d1, d2, d3] => { results := [.lit (.bool true)], args := [d1, d2, d3] }
  | _ => none }
def clockMonotoneRow : OpenClaim := { program := "ytbhmmffompapdaa", sum := "96a41b8ec603989d84945ba9e92b0ebfcd760c415b2818a91ee942d0c849e7c8", func := "mailboat/mailboatlaw45.ClockMonotone", spec := "clockMonotone", unfollowed := true, recurses := true, apart := false }
def ClockMonotoneSaid : Prop := clockMonotoneRow.holds Try.pinned (OpenSpec.ofChange clockMonotoneSpec)

/-- ITS FALSE NEIGHBOUR: 'it returns false'. Refute it at one input. -/
def clockMonotoneWrong : ChangeSpec := { name := "clockMonotone", fn := fun _ => fun
  | [d1, d2, d3] => { results := [.lit (.bool false)], args := [d1, d2, d3] }
  | _ => none }
def ClockMonotoneWrongFalsely : Prop := clockMonotoneRow.holds Try.pinned (OpenSpec.ofChange clockMonotoneWrong)

/-- 'mailboatlaw45.ClockIntervals': WHATEVER THE INPUT: true; the input reads as it did. -/
def clockIntervalsSpec : ChangeSpec := { name := "clockIntervals", fn := fun _ => fun
  | [d1, d2, d3, d4] => { results := [.lit (.bool true)], args := [d1, d2, d3, d4] }
  | _ => none }
def clockIntervalsRow : OpenClaim := { program := "ytbhmmffompapdaa", sum := "96a41b8ec603989d84945ba9e92b0ebfcd760c415b2818a91ee942d0c849e7c8", func := "mailboat/mailboatlaw45.ClockIntervals", spec := "clockIntervals", unfollowed := true, recurses := true, apart := false }
def ClockIntervalsSaid : Prop := clockIntervalsRow.holds Try.pinned (OpenSpec.ofChange clockIntervalsSpec)

/-- ITS FALSE NEIGHBOUR: 'it returns false'. Refute it at one input. -/
def clockIntervalsWrong : ChangeSpec := { name := "clockIntervals", fn := fun _ => fun
  | [d1, d2, d3, d4] => { results := [.lit (.bool false)], args := [d1, d2, d3, d4] }
  | _ => none }
def ClockIntervalsWrongFalsely : Prop := clockIntervalsRow.holds Try.pinned (OpenSpec.ofChange clockIntervalsWrong)

/-- 'mailboatlaw45.ClockGuards': WHATEVER THE INPUT: true; the input reads as it did. -/
def clockGuardsSpec : ChangeSpec := { name := "clockGuards", fn := fun _ => fun
  | [d1, d2, d3] => { results := [.lit (.bool true)], args := [d1, d2, d3] }
  | _ => none }
def clockGuardsRow : OpenClaim := { program := "ytbhmmffompapdaa", sum := "96a41b8ec603989d84945ba9e92b0ebfcd760c415b2818a91ee942d0c849e7c8", func := "mailboat/mailboatlaw45.ClockGuards", spec := "clockGuards", unfollowed := true, recurses := true, apart := false }
def ClockGuardsSaid : Prop := clockGuardsRow.holds Try.pinned (OpenSpec.ofChange clockGuardsSpec)

/-- ITS FALSE NEIGHBOUR: 'it returns false'. Refute it at one input. -/
def clockGuardsWrong : ChangeSpec := { name := "clockGuards", fn := fun _ => fun
  | [d1, d2, d3] => { results := [.lit (.bool false)], args := [d1, d2, d3] }
  | _ => none }
def ClockGuardsWrongFalsely : Prop := clockGuardsRow.holds Try.pinned (OpenSpec.ofChange clockGuardsWrong)

/- THE SECOND FORM. 'bulk': how many values and letters a reading holds, each counted each time it is reached (what is shared counts as often as it is met; a slice's spare places count too). A statement '..UptoSaid' is the law's where the arguments, and the package variables that the reading takes, are together of bulk at most 1048576: NARROWER than '..Said'. Prove '..Said' where nothing that the law and all that it calls make is longer than what came in: it says more and counts as full. Else prove '..UptoSaid'. A law counts once. -/
mutual
def uptoBulk {H : Type} : DataW H → Nat
  | .lit (.string bytes) => bytes.length + 1
  | .lit _ => 1
  | .nil => 1
  | .ptr d => uptoBulk d + 1
  | .slice elems spare => uptoBulkAll elems + uptoBulkAll spare + 1
  | .agg parts => uptoBulkAll parts + 1
  | .iface _ d => uptoBulk d + 1
  | .map entries => uptoBulkEntries entries + 1
  | .held _ => 1
def uptoBulkAll {H : Type} : List (DataW H) → Nat
  | [] => 0
  | d :: r => uptoBulk d + uptoBulkAll r
def uptoBulkEntries {H : Type} : List (Lit × DataW H) → Nat
  | [] => 0
  | x :: r => uptoBulkEntry x + uptoBulkEntries r
def uptoBulkEntry {H : Type} : Lit × DataW H → Nat
  | (.string bytes, d) => bytes.length + uptoBulk d + 1
  | (_, d) => uptoBulk d + 1
 end
def uptoSmall : (H : Type) → List (DataW H) → Bool := fun _ ds => decide (uptoBulkAll ds ≤ 1048576)
def OpenSpec.upto (s : _root_.Go.ChangeSpec) : _root_.Go.OpenSpec := { _root_.Go.OpenSpec.ofChange s with cond := some uptoSmall }

/-- 'mailboatlaw45.ClockTimes', WHERE WHAT IT READS IS OF BULK AT MOST 1048576: true; the input reads as it did. -/
def clockTimesUptoRow : OpenClaim := { program := "ytbhmmffompapdaa", sum := "96a41b8ec603989d84945ba9e92b0ebfcd760c415b2818a91ee942d0c849e7c8", func := "mailboat/mailboatlaw45.ClockTimes", spec := "clockTimes", unfollowed := true, recurses := true, apart := false, narrowed := true }
def ClockTimesUptoSaid : Prop := clockTimesUptoRow.holds Try.pinned (OpenSpec.upto clockTimesSpec)

/-- 'mailboatlaw45.ClockMonotone', WHERE WHAT IT READS IS OF BULK AT MOST 1048576: true; the input reads as it did. -/
def clockMonotoneUptoRow : OpenClaim := { program := "ytbhmmffompapdaa", sum := "96a41b8ec603989d84945ba9e92b0ebfcd760c415b2818a91ee942d0c849e7c8", func := "mailboat/mailboatlaw45.ClockMonotone", spec := "clockMonotone", unfollowed := true, recurses := true, apart := false, narrowed := true }
def ClockMonotoneUptoSaid : Prop := clockMonotoneUptoRow.holds Try.pinned (OpenSpec.upto clockMonotoneSpec)

/-- 'mailboatlaw45.ClockIntervals', WHERE WHAT IT READS IS OF BULK AT MOST 1048576: true; the input reads as it did. -/
def clockIntervalsUptoRow : OpenClaim := { program := "ytbhmmffompapdaa", sum := "96a41b8ec603989d84945ba9e92b0ebfcd760c415b2818a91ee942d0c849e7c8", func := "mailboat/mailboatlaw45.ClockIntervals", spec := "clockIntervals", unfollowed := true, recurses := true, apart := false, narrowed := true }
def ClockIntervalsUptoSaid : Prop := clockIntervalsUptoRow.holds Try.pinned (OpenSpec.upto clockIntervalsSpec)

/-- 'mailboatlaw45.ClockGuards', WHERE WHAT IT READS IS OF BULK AT MOST 1048576: true; the input reads as it did. -/
def clockGuardsUptoRow : OpenClaim := { program := "ytbhmmffompapdaa", sum := "96a41b8ec603989d84945ba9e92b0ebfcd760c415b2818a91ee942d0c849e7c8", func := "mailboat/mailboatlaw45.ClockGuards", spec := "clockGuards", unfollowed := true, recurses := true, apart := false, narrowed := true }
def ClockGuardsUptoSaid : Prop := clockGuardsUptoRow.holds Try.pinned (OpenSpec.upto clockGuardsSpec)

end Rows
end Go.Proofs.Ytbhmmffompapdaa
