/-
  No cell of these rows narrows 'for every input' (looked for: loops, veiled, ifaces, maps, wideKeys, modest, calm, conditions, laid).
  DERIVED. THE GIVEN ROWS OF THIS SEAT. 10 by the template 'for every input the law returns true; each argument reads behind the call as it read before'; 0 by the template 'total and deterministic' (their statements: YtmjckbokjjnmeaaTotals.lean).
  GIVEN WITH THE SEED: the statements are not yours to turn. If you find one false, say at which input.
  Laid BY PROGRAM, IN A SANDBOX (cutbox-rows.mjs): the forced cells as the released guide's own fill.sh prints them over the translation d21a98b2f7714a1f… (all of the seat's roots in one cut). By AI agents, Wed Nov 11 2026. No macro, syntax, notation, axiom, sorry.
-/
import Derived.Test.YtmjckbokjjnmeaaChecked
import GoSem.Claim
import GoSem.ClaimJoined
import GoSem.ClaimMapViews
import Derived.JoinedTies
import Derived.KernelRfl
namespace Go.Proofs.Ytmjckbokjjnmeaa
/- THE CELL 'sum', in the pinned program and in every row, IS THE sha256 OF THE DUMP (.gsa) THAT YtmjckbokjjnmeaaProg.lean LOADS. Nothing in Lean hashes anything: it is a label: what it is worth is what the hold of that sum in a sandbox is worth. -/
noncomputable def Try.pinned : Pinned := { name := "ytmjckbokjjnmeaa", sum := "d21a98b2f7714a1f0dd1c689e747786f9d6dba10fb623a422cdf47cdd0f42df3", checked := Try.checked }
namespace Rows
def none {H : Type} : Left H := { results := [], args := [] }

/-- 'viatorlaw25.ReportCompares': WHATEVER THE INPUT: true; the input reads as it did. -/
def reportComparesSpec : ChangeSpec := { name := "reportCompares", fn := fun _ => fun
  | [d1, d2, d3] => { results := [.lit (.bool true)], args := [d1, d2, d3] }
  | _ => none }
def reportComparesRow : OpenClaim := { program := "ytmjckbokjjnmeaa", sum := "d21a98b2f7714a1f0dd1c689e747786f9d6dba10fb623a422cdf47cdd0f42df3", func := "viator/viatorlaw25.ReportCompares", spec := "reportCompares", unfollowed := true, recurses := true, plainKeys := false, apart := false }
def ReportComparesSaid : Prop := reportComparesRow.holds Try.pinned (OpenSpec.ofChange reportComparesSpec)

/-- ITS FALSE NEIGHBOUR: 'it returns false'. Refute it at one input. -/
def reportComparesWrong : ChangeSpec := { name := "reportCompares", fn := fun _ => fun
  | [d1, d2, d3] => { results := [.lit (.bool false)], args := [d1, d2, d3] }
  | _ => none }
def ReportComparesWrongFalsely : Prop := reportComparesRow.holds Try.pinned (OpenSpec.ofChange reportComparesWrong)

/-- 'viatorlaw25.ReportCounts': WHATEVER THE INPUT: true; the input reads as it did. -/
def reportCountsSpec : ChangeSpec := { name := "reportCounts", fn := fun _ => fun
  | [d1, d2] => { results := [.lit (.bool true)], args := [d1, d2] }
  | _ => none }
def reportCountsRow : OpenClaim := { program := "ytmjckbokjjnmeaa", sum := "d21a98b2f7714a1f0dd1c689e747786f9d6dba10fb623a422cdf47cdd0f42df3", func := "viator/viatorlaw25.ReportCounts", spec := "reportCounts", unfollowed := true, recurses := true, plainKeys := false, apart := false }
def ReportCountsSaid : Prop := reportCountsRow.holds Try.pinned (OpenSpec.ofChange reportCountsSpec)

/-- ITS FALSE NEIGHBOUR: 'it returns false'. Refute it at one input. -/
def reportCountsWrong : ChangeSpec := { name := "reportCounts", fn := fun _ => fun
  | [d1, d2] => { results := [.lit (.bool false)], args := [d1, d2] }
  | _ => none }
def ReportCountsWrongFalsely : Prop := reportCountsRow.holds Try.pinned (OpenSpec.ofChange reportCountsWrong)

/-- 'viatorlaw25.ReportMisses': WHATEVER THE INPUT: true; the input reads as it did. -/
def reportMissesSpec : ChangeSpec := { name := "reportMisses", fn := fun _ => fun
  | [d1, d2, d3] => { results := [.lit (.bool true)], args := [d1, d2, d3] }
  | _ => none }
def reportMissesRow : OpenClaim := { program := "ytmjckbokjjnmeaa", sum := "d21a98b2f7714a1f0dd1c689e747786f9d6dba10fb623a422cdf47cdd0f42df3", func := "viator/viatorlaw25.ReportMisses", spec := "reportMisses", unfollowed := true, recurses := true, plainKeys := false, apart := false }
def ReportMissesSaid : Prop := reportMissesRow.holds Try.pinned (OpenSpec.ofChange reportMissesSpec)

/-- ITS FALSE NEIGHBOUR: 'it returns false'. Refute it at one input. -/
def reportMissesWrong : ChangeSpec := { name := "reportMisses", fn := fun _ => fun
  | [d1, d2, d3] => { results := [.lit (.bool false)], args := [d1, d2, d3] }
  | _ => none }
def ReportMissesWrongFalsely : Prop := reportMissesRow.holds Try.pinned (OpenSpec.ofChange reportMissesWrong)

/-- 'viatorlaw25.ReportSets': WHATEVER THE INPUT: true; the input reads as it did. -/
def reportSetsSpec : ChangeSpec := { name := "reportSets", fn := fun _ => fun
  | [d1, d2, d3] => { results := [.lit (.bool true)], args := [d1, d2, d3] }
  | _ => none }
def reportSetsRow : OpenClaim := { program := "ytmjckbokjjnmeaa", sum := "d21a98b2f7714a1f0dd1c689e747786f9d6dba10fb623a422cdf47cdd0f42df3", func := "viator/viatorlaw25.ReportSets", spec := "reportSets", unfollowed := true, recurses := true, plainKeys := false, apart := false }
def ReportSetsSaid : Prop := reportSetsRow.holds Try.pinned (OpenSpec.ofChange reportSetsSpec)

/-- ITS FALSE NEIGHBOUR: 'it returns false'. Refute it at one input. -/
def reportSetsWrong : ChangeSpec := { name := "reportSets", fn := fun _ => fun
  | [d1, d2, d3] => { results := [.lit (.bool false)], args := [d1, d2, d3] }
  | _ => none }
def ReportSetsWrongFalsely : Prop := reportSetsRow.holds Try.pinned (OpenSpec.ofChange reportSetsWrong)

/-- 'viatorlaw25.ReportAdds': WHATEVER THE INPUT: true; the input reads as it did. -/
def reportAddsSpec : ChangeSpec := { name := "reportAdds", fn := fun _ => fun
  | [d1, d2] => { results := [.lit (.bool true)], args := [d1, d2] }
  | _ => none }
def reportAddsRow : OpenClaim := { program := "ytmjckbokjjnmeaa", sum := "d21a98b2f7714a1f0dd1c689e747786f9d6dba10fb623a422cdf47cdd0f42df3", func := "viator/viatorlaw25.ReportAdds", spec := "reportAdds", unfollowed := true, recurses := true, plainKeys := false, apart := false }
def ReportAddsSaid : Prop := reportAddsRow.holds Try.pinned (OpenSpec.ofChange reportAddsSpec)

/-- ITS FALSE NEIGHBOUR: 'it returns false'. Refute it at one input. -/
def reportAddsWrong : ChangeSpec := { name := "reportAdds", fn := fun _ => fun
  | [d1, d2] => { results := [.lit (.bool false)], args := [d1, d2] }
  | _ => none }
def ReportAddsWrongFalsely : Prop := reportAddsRow.holds Try.pinned (OpenSpec.ofChange reportAddsWrong)

/-- 'viatorlaw25.ReportMerges': WHATEVER THE INPUT: true; the input reads as it did. -/
def reportMergesSpec : ChangeSpec := { name := "reportMerges", fn := fun _ => fun
  | [d1, d2] => { results := [.lit (.bool true)], args := [d1, d2] }
  | _ => none }
def reportMergesRow : OpenClaim := { program := "ytmjckbokjjnmeaa", sum := "d21a98b2f7714a1f0dd1c689e747786f9d6dba10fb623a422cdf47cdd0f42df3", func := "viator/viatorlaw25.ReportMerges", spec := "reportMerges", unfollowed := true, recurses := true, plainKeys := false, apart := false }
def ReportMergesSaid : Prop := reportMergesRow.holds Try.pinned (OpenSpec.ofChange reportMergesSpec)

/-- ITS FALSE NEIGHBOUR: 'it returns false'. Refute it at one input. -/
def reportMergesWrong : ChangeSpec := { name := "reportMerges", fn := fun _ => fun
  | [d1, d2] => { results := [.lit (.bool false)], args := [d1, d2] }
  | _ => none }
def ReportMergesWrongFalsely : Prop := reportMergesRow.holds Try.pinned (OpenSpec.ofChange reportMergesWrong)

/-- 'viatorlaw25.ReportChecks': WHATEVER THE INPUT: true; the input reads as it did. -/
def reportChecksSpec : ChangeSpec := { name := "reportChecks", fn := fun _ => fun
  | [d1, d2] => { results := [.lit (.bool true)], args := [d1, d2] }
  | _ => none }
def reportChecksRow : OpenClaim := { program := "ytmjckbokjjnmeaa", sum := "d21a98b2f7714a1f0dd1c689e747786f9d6dba10fb623a422cdf47cdd0f42df3", func := "viator/viatorlaw25.ReportChecks", spec := "reportChecks", unfollowed := true, recurses := true, plainKeys := false, apart := false }
def ReportChecksSaid : Prop := reportChecksRow.holds Try.pinned (OpenSpec.ofChange reportChecksSpec)

/-- ITS FALSE NEIGHBOUR: 'it returns false'. Refute it at one input. -/
def reportChecksWrong : ChangeSpec := { name := "reportChecks", fn := fun _ => fun
  | [d1, d2] => { results := [.lit (.bool false)], args := [d1, d2] }
  | _ => none }
def ReportChecksWrongFalsely : Prop := reportChecksRow.holds Try.pinned (OpenSpec.ofChange reportChecksWrong)

/-- 'viatorlaw25.ReportObjects': WHATEVER THE INPUT: true; the input reads as it did. -/
def reportObjectsSpec : ChangeSpec := { name := "reportObjects", fn := fun _ => fun
  | [d1, d2] => { results := [.lit (.bool true)], args := [d1, d2] }
  | _ => none }
def reportObjectsRow : OpenClaim := { program := "ytmjckbokjjnmeaa", sum := "d21a98b2f7714a1f0dd1c689e747786f9d6dba10fb623a422cdf47cdd0f42df3", func := "viator/viatorlaw25.ReportObjects", spec := "reportObjects", unfollowed := true, recurses := true, plainKeys := false, apart := false }
def ReportObjectsSaid : Prop := reportObjectsRow.holds Try.pinned (OpenSpec.ofChange reportObjectsSpec)

/-- ITS FALSE NEIGHBOUR: 'it returns false'. Refute it at one input. -/
def reportObjectsWrong : ChangeSpec := { name := "reportObjects", fn := fun _ => fun
  | [d1, d2] => { results := [.lit (.bool false)], args := [d1, d2] }
  | _ => none }
def ReportObjectsWrongFalsely : Prop := reportObjectsRow.holds Try.pinned (OpenSpec.ofChange reportObjectsWrong)

/-- 'viatorlaw25.ReportChanges': WHATEVER THE INPUT: true; the input reads as it did. -/
def reportChangesSpec : ChangeSpec := { name := "reportChanges", fn := fun _ => fun
  | [d1, d2] => { results := [.lit (.bool true)], args := [d1, d2] }
  | _ => none }
def reportChangesRow : OpenClaim := { program := "ytmjckbokjjnmeaa", sum := "d21a98b2f7714a1f0dd1c689e747786f9d6dba10fb623a422cdf47cdd0f42df3", func := "viator/viatorlaw25.ReportChanges", spec := "reportChanges", unfollowed := true, recurses := true, plainKeys := false, apart := false }
def ReportChangesSaid : Prop := reportChangesRow.holds Try.pinned (OpenSpec.ofChange reportChangesSpec)

/-- ITS FALSE NEIGHBOUR: 'it returns false'. Refute it at one input. -/
def reportChangesWrong : ChangeSpec := { name := "reportChanges", fn := fun _ => fun
  | [d1, d2] => { results := [.lit (.bool false)], args := [d1, d2] }
  | _ => none }
def ReportChangesWrongFalsely : Prop := reportChangesRow.holds Try.pinned (OpenSpec.ofChange reportChangesWrong)

/-- 'viatorlaw25.ReportOrderless': WHATEVER THE INPUT: true; the input reads as it did. -/
def reportOrderlessSpec : ChangeSpec := { name := "reportOrderless", fn := fun _ => fun
  | [d1, d2, d3] => { results := [.lit (.bool true)], args := [d1, d2, d3] }
  | _ => none }
def reportOrderlessRow : OpenClaim := { program := "ytmjckbokjjnmeaa", sum := "d21a98b2f7714a1f0dd1c689e747786f9d6dba10fb623a422cdf47cdd0f42df3", func := "viator/viatorlaw25.ReportOrderless", spec := "reportOrderless", unfollowed := true, recurses := true, plainKeys := false, apart := false }
def ReportOrderlessSaid : Prop := reportOrderlessRow.holds Try.pinned (OpenSpec.ofChange reportOrderlessSpec)

/-- ITS FALSE NEIGHBOUR: 'it returns false'. Refute it at one input. -/
def reportOrderlessWrong : ChangeSpec := { name := "reportOrderless", fn := fun _ => fun
  | [d1, d2, d3] => { results := [.lit (.bool false)], args := [d1, d2, d3] }
  | _ => none }
def ReportOrderlessWrongFalsely : Prop := reportOrderlessRow.holds Try.pinned (OpenSpec.ofChange reportOrderlessWrong)

/- THE SECOND FORM. 'bulk': how many values and letters a reading holds, each counted each time it is reached (what is shared counts as often as it is met; a slice's spare places count too). A statement '..UptoSaid' is the law's where the arguments, and the package variables that the reading takes, are together of bulk at most 1048576: NARROWER than '..Said'. Prove '..Said' where nothing that the law and all that it calls make is longer than what came in: it says more and counts as full. Else prove '..UptoSaid'. A law counts once. -/
mutual
def uptoBulk {H : Type} : DataW H → Nat
  | .lit (.string bytes) => bytes.length + 1
  | .lit _ => 1
  | .nil => 1
  | .ptr d => uptoBulk d + 1
  | .slice elems spare => uptoBulkAll elems + uptoBulkAll spare + 1
  | .agg parts => uptoBulkAll parts + 1
  | .iface _ d => uptoBulk d + 1
  | .map entries => uptoBulkEntries entries + 1
  | .held _ => 1
def uptoBulkAll {H : Type} : List (DataW H) → Nat
  | [] => 0
  | d :: r => uptoBulk d + uptoBulkAll r
def uptoBulkEntries {H : Type} : List (Lit × DataW H) → Nat
  | [] => 0
  | x :: r => uptoBulkEntry x + uptoBulkEntries r
def uptoBulkEntry {H : Type} : Lit × DataW H → Nat
  | (.string bytes, d) => bytes.length + uptoBulk d + 1
  | (_, d) => uptoBulk d + 1
 end
def uptoSmall : (H : Type) → List (DataW H) → Bool := fun _ ds => decide (uptoBulkAll ds ≤ 1048576)
def OpenSpec.upto (s : _root_.Go.ChangeSpec) : _root_.Go.OpenSpec := { _root_.Go.OpenSpec.ofChange s with cond := some uptoSmall }

/-- 'viatorlaw25.ReportCompares', WHERE WHAT IT READS IS OF BULK AT MOST 1048576: true; the input reads as it did. -/
def reportComparesUptoRow : OpenClaim := { program := "ytmjckbokjjnmeaa", sum := "d21a98b2f7714a1f0dd1c689e747786f9d6dba10fb623a422cdf47cdd0f42df3", func := "viator/viatorlaw25.ReportCompares", spec := "reportCompares", unfollowed := true, recurses := true, plainKeys := false, apart := false, narrowed := true }
def ReportComparesUptoSaid : Prop := reportComparesUptoRow.holds Try.pinned (OpenSpec.upto reportComparesSpec)

/-- 'viatorlaw25.ReportCounts', WHERE WHAT IT READS IS OF BULK AT MOST 1048576: true; the input reads as it did. -/
def reportCountsUptoRow : OpenClaim := { program := "ytmjckbokjjnmeaa", sum := "d21a98b2f7714a1f0dd1c689e747786f9d6dba10fb623a422cdf47cdd0f42df3", func := "viator/viatorlaw25.ReportCounts", spec := "reportCounts", unfollowed := true, recurses := true, plainKeys := false, apart := false, narrowed := true }
def ReportCountsUptoSaid : Prop := reportCountsUptoRow.holds Try.pinned (OpenSpec.upto reportCountsSpec)

/-- 'viatorlaw25.ReportMisses', WHERE WHAT IT READS IS OF BULK AT MOST 1048576: true; the input reads as it did. -/
def reportMissesUptoRow : OpenClaim := { program := "ytmjckbokjjnmeaa", sum := "d21a98b2f7714a1f0dd1c689e747786f9d6dba10fb623a422cdf47cdd0f42df3", func := "viator/viatorlaw25.ReportMisses", spec := "reportMisses", unfollowed := true, recurses := true, plainKeys := false, apart := false, narrowed := true }
def ReportMissesUptoSaid : Prop := reportMissesUptoRow.holds Try.pinned (OpenSpec.upto reportMissesSpec)

/-- 'viatorlaw25.ReportSets', WHERE WHAT IT READS IS OF BULK AT MOST 1048576: true; the input reads as it did. -/
def reportSetsUptoRow : OpenClaim := { program := "ytmjckbokjjnmeaa", sum := "d21a98b2f7714a1f0dd1c689e747786f9d6dba10fb623a422cdf47cdd0f42df3", func := "viator/viatorlaw25.ReportSets", spec := "reportSets", unfollowed := true, recurses := true, plainKeys := false, apart := false, narrowed := true }
def ReportSetsUptoSaid : Prop := reportSetsUptoRow.holds Try.pinned (OpenSpec.upto reportSetsSpec)

/-- 'viatorlaw25.ReportAdds', WHERE WHAT IT READS IS OF BULK AT MOST 1048576: true; the input reads as it did. -/
def reportAddsUptoRow : OpenClaim := { program := "ytmjckbokjjnmeaa", sum := "d21a98b2f7714a1f0dd1c689e747786f9d6dba10fb623a422cdf47cdd0f42df3", func := "viator/viatorlaw25.ReportAdds", spec := "reportAdds", unfollowed := true, recurses := true, plainKeys := false, apart := false, narrowed := true }
def ReportAddsUptoSaid : Prop := reportAddsUptoRow.holds Try.pinned (OpenSpec.upto reportAddsSpec)

/-- 'viatorlaw25.ReportMerges', WHERE WHAT IT READS IS OF BULK AT MOST 1048576: true; the input reads as it did. -/
def reportMergesUptoRow : OpenClaim := { program := "ytmjckbokjjnmeaa", sum := "d21a98b2f7714a1f0dd1c689e747786f9d6dba10fb623a422cdf47cdd0f42df3", func := "viator/viatorlaw25.ReportMerges", spec := "reportMerges", unfollowed := true, recurses := true, plainKeys := false, apart := false, narrowed := true }
def ReportMergesUptoSaid : Prop := reportMergesUptoRow.holds Try.pinned (OpenSpec.upto reportMergesSpec)

/-- 'viatorlaw25.ReportChecks', WHERE WHAT IT READS IS OF BULK AT MOST 1048576: true; the input reads as it did. -/
def reportChecksUptoRow : OpenClaim := { program := "ytmjckbokjjnmeaa", sum := "d21a98b2f7714a1f0dd1c689e747786f9d6dba10fb623a422cdf47cdd0f42df3", func := "viator/viatorlaw25.ReportChecks", spec := "reportChecks", unfollowed := true, recurses := true, plainKeys := false, apart := false, narrowed := true }
def ReportChecksUptoSaid : Prop := reportChecksUptoRow.holds Try.pinned (OpenSpec.upto reportChecksSpec)

/-- 'viatorlaw25.ReportObjects', WHERE WHAT IT READS IS OF BULK AT MOST 1048576: true; the input reads as it did. -/
def reportObjectsUptoRow : OpenClaim := { program := "ytmjckbokjjnmeaa", sum := "d21a98b2f7714a1f0dd1c689e747786f9d6dba10fb623a422cdf47cdd0f42df3", func := "viator/viatorlaw25.ReportObjects", spec := "reportObjects", unfollowed := true, recurses := true, plainKeys := false, apart := false, narrowed := true }
def ReportObjectsUptoSaid : Prop := reportObjectsUptoRow.holds Try.pinned (OpenSpec.upto reportObjectsSpec)

/-- 'viatorlaw25.ReportChanges', WHERE WHAT IT READS IS OF BULK AT MOST 1048576: true; the input reads as it did. -/
def reportChangesUptoRow : OpenClaim := { program := "ytmjckbokjjnmeaa", sum := "d21a98b2f7714a1f0dd1c689e747786f9d6dba10fb623a422cdf47cdd0f42df3", func := "viator/viatorlaw25.ReportChanges", spec := "reportChanges", unfollowed := true, recurses := true, plainKeys := false, apart := false, narrowed := true }
def ReportChangesUptoSaid : Prop := reportChangesUptoRow.holds Try.pinned (OpenSpec.upto reportChangesSpec)

/-- 'viatorlaw25.ReportOrderless', WHERE WHAT IT READS IS OF BULK AT MOST 1048576: true; the input reads as it did. -/
def reportOrderlessUptoRow : OpenClaim := { program := "ytmjckbokjjnmeaa", sum := "d21a98b2f7714a1f0dd1c689e747786f9d6dba10fb623a422cdf47cdd0f42df3", func := "viator/viatorlaw25.ReportOrderless", spec := "reportOrderless", unfollowed := true, recurses := true, plainKeys := false, apart := false, narrowed := true }
def ReportOrderlessUptoSaid : Prop := reportOrderlessUptoRow.holds Try.pinned (OpenSpec.upto reportOrderlessSpec)

end Rows
end Go.Proofs.Ytmjckbokjjnmeaa
