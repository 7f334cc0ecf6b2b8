/-
  NARROWER THAN 'FOR EVERY INPUT', by the rows' own cells (each row's printed sentence says how): BundleSearches: laid · BundleBoxes: laid · BundleEquals: laid · BundleDuring: laid · BundleChecks: laid · BundleReads: laid · BundleBuilds: laid · BundleFinds: laid · BundleAppends: laid.
  DERIVED. THE GIVEN ROWS OF THIS SEAT. 9 by the template 'for every input the law returns true; each argument reads behind the call as it read before'; 0 by the template 'total and deterministic' (their statements: YtfkgaphfdpflmaaGreatDoorTotals.lean).
  GIVEN WITH THE SEED: the statements are not yours to turn. If you find one false, say at which input.
  Laid BY PROGRAM, IN A SANDBOX (cutbox-rows.mjs): the forced cells as the released guide's own fill.sh prints them over the translation 8e57b26d6058b709… (all of the seat's roots in one cut). By AI agents, Wed Nov 11 2026. No macro, syntax, notation, axiom, sorry.
-/
import Derived.Test.YtfkgaphfdpflmaaGreatDoorChecked
import GoSem.PinnedTables
import GoSem.Claim
import GoSem.ClaimJoined
import GoSem.ClaimMapViews
import Derived.JoinedTies
import Derived.KernelRfl
namespace Go.Proofs.YtfkgaphfdpflmaaGreatDoor
/- THE CELL 'sum', in the pinned program and in every row, IS THE sha256 OF THE DUMP (.gsa) THAT YtfkgaphfdpflmaaGreatDoorProg.lean LOADS. Nothing in Lean hashes anything: it is a label: what it is worth is what the hold of that sum in a sandbox is worth. -/
noncomputable def Tryz.pinned : Pinned := { name := "ytfkgaphfdpflmaagreatdoor", sum := "8e57b26d6058b70901e9837d9553241d7bc0a69ddf2adb42e9298a633dff64d1", checked := Tryz.checked }
namespace Rows
def none {H : Type} : Left H := { results := [], args := [] }

/- WHAT THE LISTED PACKAGE-LEVEL VARIABLES READ AS WHEN THE CALL BEGINS. Each datum BY PROGRAM (the guide's laid-datum.mjs) off the statement by which the dump's own 'gosem.cut.vars' lays the variable. In a bare row this is a premise. The card (YtfkgaphfdpflmaaGreatDoorCards.lean) ties it to the program's text. -/
def laid_unicode_utf8_acceptRanges {H : Type} : DataW H := .agg [.agg [.lit (.int .u8 128), .lit (.int .u8 191)], .agg [.lit (.int .u8 160), .lit (.int .u8 191)], .agg [.lit (.int .u8 128), .lit (.int .u8 159)], .agg [.lit (.int .u8 144), .lit (.int .u8 191)], .agg [.lit (.int .u8 128), .lit (.int .u8 143)], .agg [.lit (.int .u8 0), .lit (.int .u8 0)], .agg [.lit (.int .u8 0), .lit (.int .u8 0)], .agg [.lit (.int .u8 0), .lit (.int .u8 0)], .agg [.lit (.int .u8 0), .lit (.int .u8 0)], .agg [.lit (.int .u8 0), .lit (.int .u8 0)], .agg [.lit (.int .u8 0), .lit (.int .u8 0)], .agg [.lit (.int .u8 0), .lit (.int .u8 0)], .agg [.lit (.int .u8 0), .lit (.int .u8 0)], .agg [.lit (.int .u8 0), .lit (.int .u8 0)], .agg [.lit (.int .u8 0), .lit (.int .u8 0)], .agg [.lit (.int .u8 0), .lit (.int .u8 0)]]
/-- One of Go's own tables, pinned by name: the form's constant. -/
def laid_unicode_utf8_first : DataW Unit := Go.Pinned.utf8First

/-- 'viatorlaw39.BundleSearches': WHATEVER THE INPUT: true; the input reads as it did. -/
def bundleSearchesSpec : ChangeSpec := { name := "bundleSearches", fn := fun _ => fun
  | [d1, d2, d3] => { results := [.lit (.bool true)], args := [d1, d2, d3] }
  | _ => none }
def bundleSearchesRow : OpenClaim := { program := "ytfkgaphfdpflmaagreatdoor", sum := "8e57b26d6058b70901e9837d9553241d7bc0a69ddf2adb42e9298a633dff64d1", func := "viator/viatorlaw39.BundleSearches", spec := "bundleSearches", inPlace := ["internal/bytealg.abigen_runtime_cmpstring", "internal/bytealg.IndexByteString", "internal/bytealg.IndexString", "math/bits.Add64", "internal/abi.NoEscape", "internal/bytealg.MakeNoZero"], unfollowed := true, recurses := true, named := ["unicode/utf8.first", "unicode/utf8.acceptRanges", "internal/bytealg.MaxLen"], apart := false, laid := [("unicode/utf8.acceptRanges", laid_unicode_utf8_acceptRanges), ("unicode/utf8.first", laid_unicode_utf8_first)] }
def BundleSearchesSaid : Prop := bundleSearchesRow.holds Tryz.pinned (OpenSpec.ofChange bundleSearchesSpec)

/-- ITS FALSE NEIGHBOUR: 'it returns false'. Refute it at one input. -/
def bundleSearchesWrong : ChangeSpec := { name := "bundleSearches", fn := fun _ => fun
  | [d1, d2, d3] => { results := [.lit (.bool false)], args := [d1, d2, d3] }
  | _ => none }
def BundleSearchesWrongFalsely : Prop := bundleSearchesRow.holds Tryz.pinned (OpenSpec.ofChange bundleSearchesWrong)

/-- 'viatorlaw39.BundleBoxes': WHATEVER THE INPUT: true; the input reads as it did. -/
def bundleBoxesSpec : ChangeSpec := { name := "bundleBoxes", fn := fun _ => fun
  | [d1, d2, d3] => { results := [.lit (.bool true)], args := [d1, d2, d3] }
  | _ => none }
def bundleBoxesRow : OpenClaim := { program := "ytfkgaphfdpflmaagreatdoor", sum := "8e57b26d6058b70901e9837d9553241d7bc0a69ddf2adb42e9298a633dff64d1", func := "viator/viatorlaw39.BundleBoxes", spec := "bundleBoxes", inPlace := ["internal/bytealg.abigen_runtime_cmpstring", "internal/bytealg.IndexByteString", "internal/bytealg.IndexString", "math/bits.Add64", "internal/abi.NoEscape", "internal/bytealg.MakeNoZero"], unfollowed := true, recurses := true, named := ["unicode/utf8.first", "unicode/utf8.acceptRanges", "internal/bytealg.MaxLen"], apart := false, laid := [("unicode/utf8.acceptRanges", laid_unicode_utf8_acceptRanges), ("unicode/utf8.first", laid_unicode_utf8_first)] }
def BundleBoxesSaid : Prop := bundleBoxesRow.holds Tryz.pinned (OpenSpec.ofChange bundleBoxesSpec)

/-- ITS FALSE NEIGHBOUR: 'it returns false'. Refute it at one input. -/
def bundleBoxesWrong : ChangeSpec := { name := "bundleBoxes", fn := fun _ => fun
  | [d1, d2, d3] => { results := [.lit (.bool false)], args := [d1, d2, d3] }
  | _ => none }
def BundleBoxesWrongFalsely : Prop := bundleBoxesRow.holds Tryz.pinned (OpenSpec.ofChange bundleBoxesWrong)

/-- 'viatorlaw39.BundleEquals': WHATEVER THE INPUT: true; the input reads as it did. -/
def bundleEqualsSpec : ChangeSpec := { name := "bundleEquals", fn := fun _ => fun
  | [d1, d2, d3] => { results := [.lit (.bool true)], args := [d1, d2, d3] }
  | _ => none }
def bundleEqualsRow : OpenClaim := { program := "ytfkgaphfdpflmaagreatdoor", sum := "8e57b26d6058b70901e9837d9553241d7bc0a69ddf2adb42e9298a633dff64d1", func := "viator/viatorlaw39.BundleEquals", spec := "bundleEquals", inPlace := ["internal/bytealg.abigen_runtime_cmpstring", "internal/bytealg.IndexByteString", "internal/bytealg.IndexString", "math/bits.Add64", "internal/abi.NoEscape", "internal/bytealg.MakeNoZero"], unfollowed := true, recurses := true, named := ["unicode/utf8.first", "unicode/utf8.acceptRanges", "internal/bytealg.MaxLen"], apart := false, laid := [("unicode/utf8.acceptRanges", laid_unicode_utf8_acceptRanges), ("unicode/utf8.first", laid_unicode_utf8_first)] }
def BundleEqualsSaid : Prop := bundleEqualsRow.holds Tryz.pinned (OpenSpec.ofChange bundleEqualsSpec)

/-- ITS FALSE NEIGHBOUR: 'it returns false'. Refute it at one input. -/
def bundleEqualsWrong : ChangeSpec := { name := "bundleEquals", fn := fun _ => fun
  | [d1, d2, d3] => { results := [.lit (.bool false)], args := [d1, d2, d3] }
  | _ => none }
def BundleEqualsWrongFalsely : Prop := bundleEqualsRow.holds Tryz.pinned (OpenSpec.ofChange bundleEqualsWrong)

/-- 'viatorlaw39.BundleDuring': WHATEVER THE INPUT: true; the input reads as it did. -/
def bundleDuringSpec : ChangeSpec := { name := "bundleDuring", fn := fun _ => fun
  | [d1, d2, d3] => { results := [.lit (.bool true)], args := [d1, d2, d3] }
  | _ => none }
def bundleDuringRow : OpenClaim := { program := "ytfkgaphfdpflmaagreatdoor", sum := "8e57b26d6058b70901e9837d9553241d7bc0a69ddf2adb42e9298a633dff64d1", func := "viator/viatorlaw39.BundleDuring", spec := "bundleDuring", inPlace := ["internal/bytealg.abigen_runtime_cmpstring", "internal/bytealg.IndexByteString", "internal/bytealg.IndexString", "math/bits.Add64", "internal/abi.NoEscape", "internal/bytealg.MakeNoZero"], unfollowed := true, recurses := true, named := ["unicode/utf8.first", "unicode/utf8.acceptRanges", "internal/bytealg.MaxLen"], apart := false, laid := [("unicode/utf8.acceptRanges", laid_unicode_utf8_acceptRanges), ("unicode/utf8.first", laid_unicode_utf8_first)] }
def BundleDuringSaid : Prop := bundleDuringRow.holds Tryz.pinned (OpenSpec.ofChange bundleDuringSpec)

/-- ITS FALSE NEIGHBOUR: 'it returns false'. Refute it at one input. -/
def bundleDuringWrong : ChangeSpec := { name := "bundleDuring", fn := fun _ => fun
  | [d1, d2, d3] => { results := [.lit (.bool false)], args := [d1, d2, d3] }
  | _ => none }
def BundleDuringWrongFalsely : Prop := bundleDuringRow.holds Tryz.pinned (OpenSpec.ofChange bundleDuringWrong)

/-- 'viatorlaw39.BundleChecks': WHATEVER THE INPUT: true; the input reads as it did. -/
def bundleChecksSpec : ChangeSpec := { name := "bundleChecks", fn := fun _ => fun
  | [d1, d2, d3] => { results := [.lit (.bool true)], args := [d1, d2, d3] }
  | _ => none }
def bundleChecksRow : OpenClaim := { program := "ytfkgaphfdpflmaagreatdoor", sum := "8e57b26d6058b70901e9837d9553241d7bc0a69ddf2adb42e9298a633dff64d1", func := "viator/viatorlaw39.BundleChecks", spec := "bundleChecks", inPlace := ["internal/bytealg.abigen_runtime_cmpstring", "internal/bytealg.IndexByteString", "internal/bytealg.IndexString", "math/bits.Add64", "internal/abi.NoEscape", "internal/bytealg.MakeNoZero"], unfollowed := true, recurses := true, named := ["unicode/utf8.first", "unicode/utf8.acceptRanges", "internal/bytealg.MaxLen"], apart := false, laid := [("unicode/utf8.acceptRanges", laid_unicode_utf8_acceptRanges), ("unicode/utf8.first", laid_unicode_utf8_first)] }
def BundleChecksSaid : Prop := bundleChecksRow.holds Tryz.pinned (OpenSpec.ofChange bundleChecksSpec)

/-- ITS FALSE NEIGHBOUR: 'it returns false'. Refute it at one input. -/
def bundleChecksWrong : ChangeSpec := { name := "bundleChecks", fn := fun _ => fun
  | [d1, d2, d3] => { results := [.lit (.bool false)], args := [d1, d2, d3] }
  | _ => none }
def BundleChecksWrongFalsely : Prop := bundleChecksRow.holds Tryz.pinned (OpenSpec.ofChange bundleChecksWrong)

/-- 'viatorlaw39.BundleReads': WHATEVER THE INPUT: true; the input reads as it did. -/
def bundleReadsSpec : ChangeSpec := { name := "bundleReads", fn := fun _ => fun
  | [d1, d2, d3] => { results := [.lit (.bool true)], args := [d1, d2, d3] }
  | _ => none }
def bundleReadsRow : OpenClaim := { program := "ytfkgaphfdpflmaagreatdoor", sum := "8e57b26d6058b70901e9837d9553241d7bc0a69ddf2adb42e9298a633dff64d1", func := "viator/viatorlaw39.BundleReads", spec := "bundleReads", inPlace := ["internal/bytealg.abigen_runtime_cmpstring", "internal/bytealg.IndexByteString", "internal/bytealg.IndexString", "math/bits.Add64", "internal/abi.NoEscape", "internal/bytealg.MakeNoZero"], unfollowed := true, recurses := true, named := ["unicode/utf8.first", "unicode/utf8.acceptRanges", "internal/bytealg.MaxLen"], apart := false, laid := [("unicode/utf8.acceptRanges", laid_unicode_utf8_acceptRanges), ("unicode/utf8.first", laid_unicode_utf8_first)] }
def BundleReadsSaid : Prop := bundleReadsRow.holds Tryz.pinned (OpenSpec.ofChange bundleReadsSpec)

/-- ITS FALSE NEIGHBOUR: 'it returns false'. Refute it at one input. -/
def bundleReadsWrong : ChangeSpec := { name := "bundleReads", fn := fun _ => fun
  | [d1, d2, d3] => { results := [.lit (.bool false)], args := [d1, d2, d3] }
  | _ => none }
def BundleReadsWrongFalsely : Prop := bundleReadsRow.holds Tryz.pinned (OpenSpec.ofChange bundleReadsWrong)

/-- 'viatorlaw39.BundleBuilds': WHATEVER THE INPUT: true; the input reads as it did. -/
def bundleBuildsSpec : ChangeSpec := { name := "bundleBuilds", fn := fun _ => fun
  | [d1, d2, d3] => { results := [.lit (.bool true)], args := [d1, d2, d3] }
  | _ => none }
def bundleBuildsRow : OpenClaim := { program := "ytfkgaphfdpflmaagreatdoor", sum := "8e57b26d6058b70901e9837d9553241d7bc0a69ddf2adb42e9298a633dff64d1", func := "viator/viatorlaw39.BundleBuilds", spec := "bundleBuilds", inPlace := ["internal/bytealg.abigen_runtime_cmpstring", "internal/bytealg.IndexByteString", "internal/bytealg.IndexString", "math/bits.Add64", "internal/abi.NoEscape", "internal/bytealg.MakeNoZero"], unfollowed := true, recurses := true, named := ["unicode/utf8.first", "unicode/utf8.acceptRanges", "internal/bytealg.MaxLen"], apart := false, laid := [("unicode/utf8.acceptRanges", laid_unicode_utf8_acceptRanges), ("unicode/utf8.first", laid_unicode_utf8_first)] }
def BundleBuildsSaid : Prop := bundleBuildsRow.holds Tryz.pinned (OpenSpec.ofChange bundleBuildsSpec)

/-- ITS FALSE NEIGHBOUR: 'it returns false'. Refute it at one input. -/
def bundleBuildsWrong : ChangeSpec := { name := "bundleBuilds", fn := fun _ => fun
  | [d1, d2, d3] => { results := [.lit (.bool false)], args := [d1, d2, d3] }
  | _ => none }
def BundleBuildsWrongFalsely : Prop := bundleBuildsRow.holds Tryz.pinned (OpenSpec.ofChange bundleBuildsWrong)

/-- 'viatorlaw39.BundleFinds': WHATEVER THE INPUT: true; the input reads as it did. -/
def bundleFindsSpec : ChangeSpec := { name := "bundleFinds", fn := fun _ => fun
  | [d1, d2, d3] => { results := [.lit (.bool true)], args := [d1, d2, d3] }
  | _ => none }
def bundleFindsRow : OpenClaim := { program := "ytfkgaphfdpflmaagreatdoor", sum := "8e57b26d6058b70901e9837d9553241d7bc0a69ddf2adb42e9298a633dff64d1", func := "viator/viatorlaw39.BundleFinds", spec := "bundleFinds", inPlace := ["internal/bytealg.abigen_runtime_cmpstring", "internal/bytealg.IndexByteString", "internal/bytealg.IndexString", "math/bits.Add64", "internal/abi.NoEscape", "internal/bytealg.MakeNoZero"], unfollowed := true, recurses := true, named := ["unicode/utf8.first", "unicode/utf8.acceptRanges", "internal/bytealg.MaxLen"], apart := false, laid := [("unicode/utf8.acceptRanges", laid_unicode_utf8_acceptRanges), ("unicode/utf8.first", laid_unicode_utf8_first)] }
def BundleFindsSaid : Prop := bundleFindsRow.holds Tryz.pinned (OpenSpec.ofChange bundleFindsSpec)

/-- ITS FALSE NEIGHBOUR: 'it returns false'. Refute it at one input. -/
def bundleFindsWrong : ChangeSpec := { name := "bundleFinds", fn := fun _ => fun
  | [d1, d2, d3] => { results := [.lit (.bool false)], args := [d1, d2, d3] }
  | _ => none }
def BundleFindsWrongFalsely : Prop := bundleFindsRow.holds Tryz.pinned (OpenSpec.ofChange bundleFindsWrong)

/-- 'viatorlaw39.BundleAppends': WHATEVER THE INPUT: true; the input reads as it did. -/
def bundleAppendsSpec : ChangeSpec := { name := "bundleAppends", fn := fun _ => fun
  | [d1, d2, d3] => { results := [.lit (.bool true)], args := [d1, d2, d3] }
  | _ => none }
def bundleAppendsRow : OpenClaim := { program := "ytfkgaphfdpflmaagreatdoor", sum := "8e57b26d6058b70901e9837d9553241d7bc0a69ddf2adb42e9298a633dff64d1", func := "viator/viatorlaw39.BundleAppends", spec := "bundleAppends", inPlace := ["internal/bytealg.abigen_runtime_cmpstring", "internal/bytealg.IndexByteString", "internal/bytealg.IndexString", "math/bits.Add64", "internal/abi.NoEscape", "internal/bytealg.MakeNoZero", "slices.overlaps[viator/api.Object]"], unfollowed := true, recurses := true, named := ["unicode/utf8.first", "unicode/utf8.acceptRanges", "internal/bytealg.MaxLen"], apart := false, laid := [("unicode/utf8.acceptRanges", laid_unicode_utf8_acceptRanges), ("unicode/utf8.first", laid_unicode_utf8_first)] }
def BundleAppendsSaid : Prop := bundleAppendsRow.holds Tryz.pinned (OpenSpec.ofChange bundleAppendsSpec)

/-- ITS FALSE NEIGHBOUR: 'it returns false'. Refute it at one input. -/
def bundleAppendsWrong : ChangeSpec := { name := "bundleAppends", fn := fun _ => fun
  | [d1, d2, d3] => { results := [.lit (.bool false)], args := [d1, d2, d3] }
  | _ => none }
def BundleAppendsWrongFalsely : Prop := bundleAppendsRow.holds Tryz.pinned (OpenSpec.ofChange bundleAppendsWrong)

/- THE SECOND FORM. 'bulk': how many values and letters a reading holds, each counted each time it is reached (what is shared counts as often as it is met; a slice's spare places count too). A statement '..UptoSaid' is the law's where the arguments, and the package variables that the reading takes, are together of bulk at most 1048576: NARROWER than '..Said'. Prove '..Said' where nothing that the law and all that it calls make is longer than what came in: it says more and counts as full. Else prove '..UptoSaid'. A law counts once. -/
mutual
def uptoBulk {H : Type} : DataW H → Nat
  | .lit (.string bytes) => bytes.length + 1
  | .lit _ => 1
  | .nil => 1
  | .ptr d => uptoBulk d + 1
  | .slice elems spare => uptoBulkAll elems + uptoBulkAll spare + 1
  | .agg parts => uptoBulkAll parts + 1
  | .iface _ d => uptoBulk d + 1
  | .map entries => uptoBulkEntries entries + 1
  | .held _ => 1
def uptoBulkAll {H : Type} : List (DataW H) → Nat
  | [] => 0
  | d :: r => uptoBulk d + uptoBulkAll r
def uptoBulkEntries {H : Type} : List (Lit × DataW H) → Nat
  | [] => 0
  | x :: r => uptoBulkEntry x + uptoBulkEntries r
def uptoBulkEntry {H : Type} : Lit × DataW H → Nat
  | (.string bytes, d) => bytes.length + uptoBulk d + 1
  | (_, d) => uptoBulk d + 1
 end
def uptoSmall : (H : Type) → List (DataW H) → Bool := fun _ ds => decide (uptoBulkAll ds ≤ 1048576)
def OpenSpec.upto (s : _root_.Go.ChangeSpec) : _root_.Go.OpenSpec := { _root_.Go.OpenSpec.ofChange s with cond := some uptoSmall }

/-- 'viatorlaw39.BundleSearches', WHERE WHAT IT READS IS OF BULK AT MOST 1048576: true; the input reads as it did. -/
def bundleSearchesUptoRow : OpenClaim := { program := "ytfkgaphfdpflmaagreatdoor", sum := "8e57b26d6058b70901e9837d9553241d7bc0a69ddf2adb42e9298a633dff64d1", func := "viator/viatorlaw39.BundleSearches", spec := "bundleSearches", inPlace := ["internal/bytealg.abigen_runtime_cmpstring", "internal/bytealg.IndexByteString", "internal/bytealg.IndexString", "math/bits.Add64", "internal/abi.NoEscape", "internal/bytealg.MakeNoZero"], unfollowed := true, recurses := true, named := ["unicode/utf8.first", "unicode/utf8.acceptRanges", "internal/bytealg.MaxLen"], apart := false, laid := [("unicode/utf8.acceptRanges", laid_unicode_utf8_acceptRanges), ("unicode/utf8.first", laid_unicode_utf8_first)], narrowed := true }
def BundleSearchesUptoSaid : Prop := bundleSearchesUptoRow.holds Tryz.pinned (OpenSpec.upto bundleSearchesSpec)

/-- 'viatorlaw39.BundleBoxes', WHERE WHAT IT READS IS OF BULK AT MOST 1048576: true; the input reads as it did. -/
def bundleBoxesUptoRow : OpenClaim := { program := "ytfkgaphfdpflmaagreatdoor", sum := "8e57b26d6058b70901e9837d9553241d7bc0a69ddf2adb42e9298a633dff64d1", func := "viator/viatorlaw39.BundleBoxes", spec := "bundleBoxes", inPlace := ["internal/bytealg.abigen_runtime_cmpstring", "internal/bytealg.IndexByteString", "internal/bytealg.IndexString", "math/bits.Add64", "internal/abi.NoEscape", "internal/bytealg.MakeNoZero"], unfollowed := true, recurses := true, named := ["unicode/utf8.first", "unicode/utf8.acceptRanges", "internal/bytealg.MaxLen"], apart := false, laid := [("unicode/utf8.acceptRanges", laid_unicode_utf8_acceptRanges), ("unicode/utf8.first", laid_unicode_utf8_first)], narrowed := true }
def BundleBoxesUptoSaid : Prop := bundleBoxesUptoRow.holds Tryz.pinned (OpenSpec.upto bundleBoxesSpec)

/-- 'viatorlaw39.BundleEquals', WHERE WHAT IT READS IS OF BULK AT MOST 1048576: true; the input reads as it did. -/
def bundleEqualsUptoRow : OpenClaim := { program := "ytfkgaphfdpflmaagreatdoor", sum := "8e57b26d6058b70901e9837d9553241d7bc0a69ddf2adb42e9298a633dff64d1", func := "viator/viatorlaw39.BundleEquals", spec := "bundleEquals", inPlace := ["internal/bytealg.abigen_runtime_cmpstring", "internal/bytealg.IndexByteString", "internal/bytealg.IndexString", "math/bits.Add64", "internal/abi.NoEscape", "internal/bytealg.MakeNoZero"], unfollowed := true, recurses := true, named := ["unicode/utf8.first", "unicode/utf8.acceptRanges", "internal/bytealg.MaxLen"], apart := false, laid := [("unicode/utf8.acceptRanges", laid_unicode_utf8_acceptRanges), ("unicode/utf8.first", laid_unicode_utf8_first)], narrowed := true }
def BundleEqualsUptoSaid : Prop := bundleEqualsUptoRow.holds Tryz.pinned (OpenSpec.upto bundleEqualsSpec)

/-- 'viatorlaw39.BundleDuring', WHERE WHAT IT READS IS OF BULK AT MOST 1048576: true; the input reads as it did. -/
def bundleDuringUptoRow : OpenClaim := { program := "ytfkgaphfdpflmaagreatdoor", sum := "8e57b26d6058b70901e9837d9553241d7bc0a69ddf2adb42e9298a633dff64d1", func := "viator/viatorlaw39.BundleDuring", spec := "bundleDuring", inPlace := ["internal/bytealg.abigen_runtime_cmpstring", "internal/bytealg.IndexByteString", "internal/bytealg.IndexString", "math/bits.Add64", "internal/abi.NoEscape", "internal/bytealg.MakeNoZero"], unfollowed := true, recurses := true, named := ["unicode/utf8.first", "unicode/utf8.acceptRanges", "internal/bytealg.MaxLen"], apart := false, laid := [("unicode/utf8.acceptRanges", laid_unicode_utf8_acceptRanges), ("unicode/utf8.first", laid_unicode_utf8_first)], narrowed := true }
def BundleDuringUptoSaid : Prop := bundleDuringUptoRow.holds Tryz.pinned (OpenSpec.upto bundleDuringSpec)

/-- 'viatorlaw39.BundleChecks', WHERE WHAT IT READS IS OF BULK AT MOST 1048576: true; the input reads as it did. -/
def bundleChecksUptoRow : OpenClaim := { program := "ytfkgaphfdpflmaagreatdoor", sum := "8e57b26d6058b70901e9837d9553241d7bc0a69ddf2adb42e9298a633dff64d1", func := "viator/viatorlaw39.BundleChecks", spec := "bundleChecks", inPlace := ["internal/bytealg.abigen_runtime_cmpstring", "internal/bytealg.IndexByteString", "internal/bytealg.IndexString", "math/bits.Add64", "internal/abi.NoEscape", "internal/bytealg.MakeNoZero"], unfollowed := true, recurses := true, named := ["unicode/utf8.first", "unicode/utf8.acceptRanges", "internal/bytealg.MaxLen"], apart := false, laid := [("unicode/utf8.acceptRanges", laid_unicode_utf8_acceptRanges), ("unicode/utf8.first", laid_unicode_utf8_first)], narrowed := true }
def BundleChecksUptoSaid : Prop := bundleChecksUptoRow.holds Tryz.pinned (OpenSpec.upto bundleChecksSpec)

/-- 'viatorlaw39.BundleReads', WHERE WHAT IT READS IS OF BULK AT MOST 1048576: true; the input reads as it did. -/
def bundleReadsUptoRow : OpenClaim := { program := "ytfkgaphfdpflmaagreatdoor", sum := "8e57b26d6058b70901e9837d9553241d7bc0a69ddf2adb42e9298a633dff64d1", func := "viator/viatorlaw39.BundleReads", spec := "bundleReads", inPlace := ["internal/bytealg.abigen_runtime_cmpstring", "internal/bytealg.IndexByteString", "internal/bytealg.IndexString", "math/bits.Add64", "internal/abi.NoEscape", "internal/bytealg.MakeNoZero"], unfollowed := true, recurses := true, named := ["unicode/utf8.first", "unicode/utf8.acceptRanges", "internal/bytealg.MaxLen"], apart := false, laid := [("unicode/utf8.acceptRanges", laid_unicode_utf8_acceptRanges), ("unicode/utf8.first", laid_unicode_utf8_first)], narrowed := true }
def BundleReadsUptoSaid : Prop := bundleReadsUptoRow.holds Tryz.pinned (OpenSpec.upto bundleReadsSpec)

/-- 'viatorlaw39.BundleBuilds', WHERE WHAT IT READS IS OF BULK AT MOST 1048576: true; the input reads as it did. -/
def bundleBuildsUptoRow : OpenClaim := { program := "ytfkgaphfdpflmaagreatdoor", sum := "8e57b26d6058b70901e9837d9553241d7bc0a69ddf2adb42e9298a633dff64d1", func := "viator/viatorlaw39.BundleBuilds", spec := "bundleBuilds", inPlace := ["internal/bytealg.abigen_runtime_cmpstring", "internal/bytealg.IndexByteString", "internal/bytealg.IndexString", "math/bits.Add64", "internal/abi.NoEscape", "internal/bytealg.MakeNoZero"], unfollowed := true, recurses := true, named := ["unicode/utf8.first", "unicode/utf8.acceptRanges", "internal/bytealg.MaxLen"], apart := false, laid := [("unicode/utf8.acceptRanges", laid_unicode_utf8_acceptRanges), ("unicode/utf8.first", laid_unicode_utf8_first)], narrowed := true }
def BundleBuildsUptoSaid : Prop := bundleBuildsUptoRow.holds Tryz.pinned (OpenSpec.upto bundleBuildsSpec)

/-- 'viatorlaw39.BundleFinds', WHERE WHAT IT READS IS OF BULK AT MOST 1048576: true; the input reads as it did. -/
def bundleFindsUptoRow : OpenClaim := { program := "ytfkgaphfdpflmaagreatdoor", sum := "8e57b26d6058b70901e9837d9553241d7bc0a69ddf2adb42e9298a633dff64d1", func := "viator/viatorlaw39.BundleFinds", spec := "bundleFinds", inPlace := ["internal/bytealg.abigen_runtime_cmpstring", "internal/bytealg.IndexByteString", "internal/bytealg.IndexString", "math/bits.Add64", "internal/abi.NoEscape", "internal/bytealg.MakeNoZero"], unfollowed := true, recurses := true, named := ["unicode/utf8.first", "unicode/utf8.acceptRanges", "internal/bytealg.MaxLen"], apart := false, laid := [("unicode/utf8.acceptRanges", laid_unicode_utf8_acceptRanges), ("unicode/utf8.first", laid_unicode_utf8_first)], narrowed := true }
def BundleFindsUptoSaid : Prop := bundleFindsUptoRow.holds Tryz.pinned (OpenSpec.upto bundleFindsSpec)

/-- 'viatorlaw39.BundleAppends', WHERE WHAT IT READS IS OF BULK AT MOST 1048576: true; the input reads as it did. -/
def bundleAppendsUptoRow : OpenClaim := { program := "ytfkgaphfdpflmaagreatdoor", sum := "8e57b26d6058b70901e9837d9553241d7bc0a69ddf2adb42e9298a633dff64d1", func := "viator/viatorlaw39.BundleAppends", spec := "bundleAppends", inPlace := ["internal/bytealg.abigen_runtime_cmpstring", "internal/bytealg.IndexByteString", "internal/bytealg.IndexString", "math/bits.Add64", "internal/abi.NoEscape", "internal/bytealg.MakeNoZero", "slices.overlaps[viator/api.Object]"], unfollowed := true, recurses := true, named := ["unicode/utf8.first", "unicode/utf8.acceptRanges", "internal/bytealg.MaxLen"], apart := false, laid := [("unicode/utf8.acceptRanges", laid_unicode_utf8_acceptRanges), ("unicode/utf8.first", laid_unicode_utf8_first)], narrowed := true }
def BundleAppendsUptoSaid : Prop := bundleAppendsUptoRow.holds Tryz.pinned (OpenSpec.upto bundleAppendsSpec)

end Rows
end Go.Proofs.YtfkgaphfdpflmaaGreatDoor
