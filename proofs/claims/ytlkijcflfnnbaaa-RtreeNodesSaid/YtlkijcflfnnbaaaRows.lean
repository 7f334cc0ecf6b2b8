/-
  No cell of these rows narrows 'for every input' (looked for: loops, veiled, ifaces, maps, wideKeys, modest, calm, conditions, laid).
  DERIVED. THE GIVEN ROWS OF THIS SEAT. 8 by the template 'for every input the law returns true; each argument reads behind the call as it read before'; 0 by the template 'total and deterministic' (their statements: YtlkijcflfnnbaaaTotals.lean).
  GIVEN WITH THE SEED: the statements are not yours to turn. If you find one false, say at which input.
  Laid BY PROGRAM, IN A SANDBOX (cutbox-rows.mjs): the forced cells as the released guide's own fill.sh prints them over the translation 5f27b8cd6c0de551… (all of the seat's roots in one cut). By AI agents, Wed Nov 11 2026. No macro, syntax, notation, axiom, sorry.
-/
import Derived.Test.YtlkijcflfnnbaaaChecked
import GoSem.Claim
import GoSem.ClaimJoined
import GoSem.ClaimMapViews
import Derived.JoinedTies
import Derived.KernelRfl
namespace Go.Proofs.Ytlkijcflfnnbaaa
/- THE CELL 'sum', in the pinned program and in every row, IS THE sha256 OF THE DUMP (.gsa) THAT YtlkijcflfnnbaaaProg.lean LOADS. Nothing in Lean hashes anything: it is a label: what it is worth is what the hold of that sum in a sandbox is worth. -/
noncomputable def Try.pinned : Pinned := { name := "ytlkijcflfnnbaaa", sum := "5f27b8cd6c0de551c9b232a6f516ab173241b688efcc2b9bfe9142d55b49d181", checked := Try.checked }
namespace Rows
def none {H : Type} : Left H := { results := [], args := [] }

/-- 'viatorlaw38.RtreeBoxes': WHATEVER THE INPUT: true; the input reads as it did. -/
def rtreeBoxesSpec : ChangeSpec := { name := "rtreeBoxes", fn := fun _ => fun
  | [d1, d2] => { results := [.lit (.bool true)], args := [d1, d2] }
  | _ => none }
def rtreeBoxesRow : OpenClaim := { program := "ytlkijcflfnnbaaa", sum := "5f27b8cd6c0de551c9b232a6f516ab173241b688efcc2b9bfe9142d55b49d181", func := "viator/viatorlaw38.RtreeBoxes", spec := "rtreeBoxes", unfollowed := true, recurses := true, plainKeys := false, apart := false }
def RtreeBoxesSaid : Prop := rtreeBoxesRow.holds Try.pinned (OpenSpec.ofChange rtreeBoxesSpec)

/-- ITS FALSE NEIGHBOUR: 'it returns false'. Refute it at one input. -/
def rtreeBoxesWrong : ChangeSpec := { name := "rtreeBoxes", fn := fun _ => fun
  | [d1, d2] => { results := [.lit (.bool false)], args := [d1, d2] }
  | _ => none }
def RtreeBoxesWrongFalsely : Prop := rtreeBoxesRow.holds Try.pinned (OpenSpec.ofChange rtreeBoxesWrong)

/-- 'viatorlaw38.RtreeSearches': WHATEVER THE INPUT: true; the input reads as it did. -/
def rtreeSearchesSpec : ChangeSpec := { name := "rtreeSearches", fn := fun _ => fun
  | [d1, d2, d3] => { results := [.lit (.bool true)], args := [d1, d2, d3] }
  | _ => none }
def rtreeSearchesRow : OpenClaim := { program := "ytlkijcflfnnbaaa", sum := "5f27b8cd6c0de551c9b232a6f516ab173241b688efcc2b9bfe9142d55b49d181", func := "viator/viatorlaw38.RtreeSearches", spec := "rtreeSearches", unfollowed := true, recurses := true, plainKeys := false, apart := false }
def RtreeSearchesSaid : Prop := rtreeSearchesRow.holds Try.pinned (OpenSpec.ofChange rtreeSearchesSpec)

/-- ITS FALSE NEIGHBOUR: 'it returns false'. Refute it at one input. -/
def rtreeSearchesWrong : ChangeSpec := { name := "rtreeSearches", fn := fun _ => fun
  | [d1, d2, d3] => { results := [.lit (.bool false)], args := [d1, d2, d3] }
  | _ => none }
def RtreeSearchesWrongFalsely : Prop := rtreeSearchesRow.holds Try.pinned (OpenSpec.ofChange rtreeSearchesWrong)

/-- 'viatorlaw38.RtreeAlive': WHATEVER THE INPUT: true; the input reads as it did. -/
def rtreeAliveSpec : ChangeSpec := { name := "rtreeAlive", fn := fun _ => fun
  | [d1, d2, d3] => { results := [.lit (.bool true)], args := [d1, d2, d3] }
  | _ => none }
def rtreeAliveRow : OpenClaim := { program := "ytlkijcflfnnbaaa", sum := "5f27b8cd6c0de551c9b232a6f516ab173241b688efcc2b9bfe9142d55b49d181", func := "viator/viatorlaw38.RtreeAlive", spec := "rtreeAlive", unfollowed := true, recurses := true, plainKeys := false, apart := false }
def RtreeAliveSaid : Prop := rtreeAliveRow.holds Try.pinned (OpenSpec.ofChange rtreeAliveSpec)

/-- ITS FALSE NEIGHBOUR: 'it returns false'. Refute it at one input. -/
def rtreeAliveWrong : ChangeSpec := { name := "rtreeAlive", fn := fun _ => fun
  | [d1, d2, d3] => { results := [.lit (.bool false)], args := [d1, d2, d3] }
  | _ => none }
def RtreeAliveWrongFalsely : Prop := rtreeAliveRow.holds Try.pinned (OpenSpec.ofChange rtreeAliveWrong)

/-- 'viatorlaw38.RtreeOrder': WHATEVER THE INPUT: true; the input reads as it did. -/
def rtreeOrderSpec : ChangeSpec := { name := "rtreeOrder", fn := fun _ => fun
  | [d1, d2, d3] => { results := [.lit (.bool true)], args := [d1, d2, d3] }
  | _ => none }
def rtreeOrderRow : OpenClaim := { program := "ytlkijcflfnnbaaa", sum := "5f27b8cd6c0de551c9b232a6f516ab173241b688efcc2b9bfe9142d55b49d181", func := "viator/viatorlaw38.RtreeOrder", spec := "rtreeOrder", unfollowed := true, recurses := true, plainKeys := false, apart := false }
def RtreeOrderSaid : Prop := rtreeOrderRow.holds Try.pinned (OpenSpec.ofChange rtreeOrderSpec)

/-- ITS FALSE NEIGHBOUR: 'it returns false'. Refute it at one input. -/
def rtreeOrderWrong : ChangeSpec := { name := "rtreeOrder", fn := fun _ => fun
  | [d1, d2, d3] => { results := [.lit (.bool false)], args := [d1, d2, d3] }
  | _ => none }
def RtreeOrderWrongFalsely : Prop := rtreeOrderRow.holds Try.pinned (OpenSpec.ofChange rtreeOrderWrong)

/-- 'viatorlaw38.RtreeNodes': WHATEVER THE INPUT: true; the input reads as it did. -/
def rtreeNodesSpec : ChangeSpec := { name := "rtreeNodes", fn := fun _ => fun
  | [d1, d2] => { results := [.lit (.bool true)], args := [d1, d2] }
  | _ => none }
def rtreeNodesRow : OpenClaim := { program := "ytlkijcflfnnbaaa", sum := "5f27b8cd6c0de551c9b232a6f516ab173241b688efcc2b9bfe9142d55b49d181", func := "viator/viatorlaw38.RtreeNodes", spec := "rtreeNodes", unfollowed := true, recurses := true, plainKeys := false, apart := false }
def RtreeNodesSaid : Prop := rtreeNodesRow.holds Try.pinned (OpenSpec.ofChange rtreeNodesSpec)

/-- ITS FALSE NEIGHBOUR: 'it returns false'. Refute it at one input. -/
def rtreeNodesWrong : ChangeSpec := { name := "rtreeNodes", fn := fun _ => fun
  | [d1, d2] => { results := [.lit (.bool false)], args := [d1, d2] }
  | _ => none }
def RtreeNodesWrongFalsely : Prop := rtreeNodesRow.holds Try.pinned (OpenSpec.ofChange rtreeNodesWrong)

/-- 'viatorlaw38.RtreeVisits': WHATEVER THE INPUT: true; the input reads as it did. -/
def rtreeVisitsSpec : ChangeSpec := { name := "rtreeVisits", fn := fun _ => fun
  | [d1, d2, d3] => { results := [.lit (.bool true)], args := [d1, d2, d3] }
  | _ => none }
def rtreeVisitsRow : OpenClaim := { program := "ytlkijcflfnnbaaa", sum := "5f27b8cd6c0de551c9b232a6f516ab173241b688efcc2b9bfe9142d55b49d181", func := "viator/viatorlaw38.RtreeVisits", spec := "rtreeVisits", unfollowed := true, recurses := true, plainKeys := false, apart := false }
def RtreeVisitsSaid : Prop := rtreeVisitsRow.holds Try.pinned (OpenSpec.ofChange rtreeVisitsSpec)

/-- ITS FALSE NEIGHBOUR: 'it returns false'. Refute it at one input. -/
def rtreeVisitsWrong : ChangeSpec := { name := "rtreeVisits", fn := fun _ => fun
  | [d1, d2, d3] => { results := [.lit (.bool false)], args := [d1, d2, d3] }
  | _ => none }
def RtreeVisitsWrongFalsely : Prop := rtreeVisitsRow.holds Try.pinned (OpenSpec.ofChange rtreeVisitsWrong)

/-- 'viatorlaw38.RtreeErrors': WHATEVER THE INPUT: true; the input reads as it did. -/
def rtreeErrorsSpec : ChangeSpec := { name := "rtreeErrors", fn := fun _ => fun
  | [d1, d2, d3] => { results := [.lit (.bool true)], args := [d1, d2, d3] }
  | _ => none }
def rtreeErrorsRow : OpenClaim := { program := "ytlkijcflfnnbaaa", sum := "5f27b8cd6c0de551c9b232a6f516ab173241b688efcc2b9bfe9142d55b49d181", func := "viator/viatorlaw38.RtreeErrors", spec := "rtreeErrors", unfollowed := true, recurses := true, plainKeys := false, apart := false }
def RtreeErrorsSaid : Prop := rtreeErrorsRow.holds Try.pinned (OpenSpec.ofChange rtreeErrorsSpec)

/-- ITS FALSE NEIGHBOUR: 'it returns false'. Refute it at one input. -/
def rtreeErrorsWrong : ChangeSpec := { name := "rtreeErrors", fn := fun _ => fun
  | [d1, d2, d3] => { results := [.lit (.bool false)], args := [d1, d2, d3] }
  | _ => none }
def RtreeErrorsWrongFalsely : Prop := rtreeErrorsRow.holds Try.pinned (OpenSpec.ofChange rtreeErrorsWrong)

/-- 'viatorlaw38.RtreeSplits': WHATEVER THE INPUT: true; the input reads as it did. -/
def rtreeSplitsSpec : ChangeSpec := { name := "rtreeSplits", fn := fun _ => fun
  | [d1, d2] => { results := [.lit (.bool true)], args := [d1, d2] }
  | _ => none }
def rtreeSplitsRow : OpenClaim := { program := "ytlkijcflfnnbaaa", sum := "5f27b8cd6c0de551c9b232a6f516ab173241b688efcc2b9bfe9142d55b49d181", func := "viator/viatorlaw38.RtreeSplits", spec := "rtreeSplits", unfollowed := true, recurses := true, plainKeys := false, apart := false }
def RtreeSplitsSaid : Prop := rtreeSplitsRow.holds Try.pinned (OpenSpec.ofChange rtreeSplitsSpec)

/-- ITS FALSE NEIGHBOUR: 'it returns false'. Refute it at one input. -/
def rtreeSplitsWrong : ChangeSpec := { name := "rtreeSplits", fn := fun _ => fun
  | [d1, d2] => { results := [.lit (.bool false)], args := [d1, d2] }
  | _ => none }
def RtreeSplitsWrongFalsely : Prop := rtreeSplitsRow.holds Try.pinned (OpenSpec.ofChange rtreeSplitsWrong)

/- THE SECOND FORM. 'bulk': how many values and letters a reading holds, each counted each time it is reached (what is shared counts as often as it is met; a slice's spare places count too). A statement '..UptoSaid' is the law's where the arguments, and the package variables that the reading takes, are together of bulk at most 1048576: NARROWER than '..Said'. Prove '..Said' where nothing that the law and all that it calls make is longer than what came in: it says more and counts as full. Else prove '..UptoSaid'. A law counts once. -/
mutual
def uptoBulk {H : Type} : DataW H → Nat
  | .lit (.string bytes) => bytes.length + 1
  | .lit _ => 1
  | .nil => 1
  | .ptr d => uptoBulk d + 1
  | .slice elems spare => uptoBulkAll elems + uptoBulkAll spare + 1
  | .agg parts => uptoBulkAll parts + 1
  | .iface _ d => uptoBulk d + 1
  | .map entries => uptoBulkEntries entries + 1
  | .held _ => 1
def uptoBulkAll {H : Type} : List (DataW H) → Nat
  | [] => 0
  | d :: r => uptoBulk d + uptoBulkAll r
def uptoBulkEntries {H : Type} : List (Lit × DataW H) → Nat
  | [] => 0
  | x :: r => uptoBulkEntry x + uptoBulkEntries r
def uptoBulkEntry {H : Type} : Lit × DataW H → Nat
  | (.string bytes, d) => bytes.length + uptoBulk d + 1
  | (_, d) => uptoBulk d + 1
 end
def uptoSmall : (H : Type) → List (DataW H) → Bool := fun _ ds => decide (uptoBulkAll ds ≤ 1048576)
def OpenSpec.upto (s : _root_.Go.ChangeSpec) : _root_.Go.OpenSpec := { _root_.Go.OpenSpec.ofChange s with cond := some uptoSmall }

/-- 'viatorlaw38.RtreeBoxes', WHERE WHAT IT READS IS OF BULK AT MOST 1048576: true; the input reads as it did. -/
def rtreeBoxesUptoRow : OpenClaim := { program := "ytlkijcflfnnbaaa", sum := "5f27b8cd6c0de551c9b232a6f516ab173241b688efcc2b9bfe9142d55b49d181", func := "viator/viatorlaw38.RtreeBoxes", spec := "rtreeBoxes", unfollowed := true, recurses := true, plainKeys := false, apart := false, narrowed := true }
def RtreeBoxesUptoSaid : Prop := rtreeBoxesUptoRow.holds Try.pinned (OpenSpec.upto rtreeBoxesSpec)

/-- 'viatorlaw38.RtreeSearches', WHERE WHAT IT READS IS OF BULK AT MOST 1048576: true; the input reads as it did. -/
def rtreeSearchesUptoRow : OpenClaim := { program := "ytlkijcflfnnbaaa", sum := "5f27b8cd6c0de551c9b232a6f516ab173241b688efcc2b9bfe9142d55b49d181", func := "viator/viatorlaw38.RtreeSearches", spec := "rtreeSearches", unfollowed := true, recurses := true, plainKeys := false, apart := false, narrowed := true }
def RtreeSearchesUptoSaid : Prop := rtreeSearchesUptoRow.holds Try.pinned (OpenSpec.upto rtreeSearchesSpec)

/-- 'viatorlaw38.RtreeAlive', WHERE WHAT IT READS IS OF BULK AT MOST 1048576: true; the input reads as it did. -/
def rtreeAliveUptoRow : OpenClaim := { program := "ytlkijcflfnnbaaa", sum := "5f27b8cd6c0de551c9b232a6f516ab173241b688efcc2b9bfe9142d55b49d181", func := "viator/viatorlaw38.RtreeAlive", spec := "rtreeAlive", unfollowed := true, recurses := true, plainKeys := false, apart := false, narrowed := true }
def RtreeAliveUptoSaid : Prop := rtreeAliveUptoRow.holds Try.pinned (OpenSpec.upto rtreeAliveSpec)

/-- 'viatorlaw38.RtreeOrder', WHERE WHAT IT READS IS OF BULK AT MOST 1048576: true; the input reads as it did. -/
def rtreeOrderUptoRow : OpenClaim := { program := "ytlkijcflfnnbaaa", sum := "5f27b8cd6c0de551c9b232a6f516ab173241b688efcc2b9bfe9142d55b49d181", func := "viator/viatorlaw38.RtreeOrder", spec := "rtreeOrder", unfollowed := true, recurses := true, plainKeys := false, apart := false, narrowed := true }
def RtreeOrderUptoSaid : Prop := rtreeOrderUptoRow.holds Try.pinned (OpenSpec.upto rtreeOrderSpec)

/-- 'viatorlaw38.RtreeNodes', WHERE WHAT IT READS IS OF BULK AT MOST 1048576: true; the input reads as it did. -/
def rtreeNodesUptoRow : OpenClaim := { program := "ytlkijcflfnnbaaa", sum := "5f27b8cd6c0de551c9b232a6f516ab173241b688efcc2b9bfe9142d55b49d181", func := "viator/viatorlaw38.RtreeNodes", spec := "rtreeNodes", unfollowed := true, recurses := true, plainKeys := false, apart := false, narrowed := true }
def RtreeNodesUptoSaid : Prop := rtreeNodesUptoRow.holds Try.pinned (OpenSpec.upto rtreeNodesSpec)

/-- 'viatorlaw38.RtreeVisits', WHERE WHAT IT READS IS OF BULK AT MOST 1048576: true; the input reads as it did. -/
def rtreeVisitsUptoRow : OpenClaim := { program := "ytlkijcflfnnbaaa", sum := "5f27b8cd6c0de551c9b232a6f516ab173241b688efcc2b9bfe9142d55b49d181", func := "viator/viatorlaw38.RtreeVisits", spec := "rtreeVisits", unfollowed := true, recurses := true, plainKeys := false, apart := false, narrowed := true }
def RtreeVisitsUptoSaid : Prop := rtreeVisitsUptoRow.holds Try.pinned (OpenSpec.upto rtreeVisitsSpec)

/-- 'viatorlaw38.RtreeErrors', WHERE WHAT IT READS IS OF BULK AT MOST 1048576: true; the input reads as it did. -/
def rtreeErrorsUptoRow : OpenClaim := { program := "ytlkijcflfnnbaaa", sum := "5f27b8cd6c0de551c9b232a6f516ab173241b688efcc2b9bfe9142d55b49d181", func := "viator/viatorlaw38.RtreeErrors", spec := "rtreeErrors", unfollowed := true, recurses := true, plainKeys := false, apart := false, narrowed := true }
def RtreeErrorsUptoSaid : Prop := rtreeErrorsUptoRow.holds Try.pinned (OpenSpec.upto rtreeErrorsSpec)

/-- 'viatorlaw38.RtreeSplits', WHERE WHAT IT READS IS OF BULK AT MOST 1048576: true; the input reads as it did. -/
def rtreeSplitsUptoRow : OpenClaim := { program := "ytlkijcflfnnbaaa", sum := "5f27b8cd6c0de551c9b232a6f516ab173241b688efcc2b9bfe9142d55b49d181", func := "viator/viatorlaw38.RtreeSplits", spec := "rtreeSplits", unfollowed := true, recurses := true, plainKeys := false, apart := false, narrowed := true }
def RtreeSplitsUptoSaid : Prop := rtreeSplitsUptoRow.holds Try.pinned (OpenSpec.upto rtreeSplitsSpec)

end Rows
end Go.Proofs.Ytlkijcflfnnbaaa
