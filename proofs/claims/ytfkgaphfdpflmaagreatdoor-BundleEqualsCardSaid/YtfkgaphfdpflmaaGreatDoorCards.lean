/-
  DERIVED. GIVEN WITH THE SEED: THE CARDS: each row of YtfkgaphfdpflmaaGreatDoorRows.lean that lists a variable, with what it lists TIED to the program's text (the seventh form; the later family's looks); each row that meets fmt, with fmt's text TOLD by the authors' own Lean function (tested against real Go, not proved from fmt's source: count such statements apart). THE CARD IS WHAT COUNTS. Prove the row's statement (the work); the ties are given (YtfkgaphfdpflmaaGreatDoorTie.lean); close each card by the builder's one call (the guide's Derived/Test/ToyasCard.lean, 'card_holds'). Laid BY PROGRAM, IN A SANDBOX (cutbox-door.mjs). By AI agents, Wed Nov 11 2026. No macro, syntax, notation, axiom, sorry.
-/
import Derived.Test.YtfkgaphfdpflmaaGreatDoorRows
import GoSem.ClaimSeven
namespace Go.Proofs.YtfkgaphfdpflmaaGreatDoor
namespace Rows

/-- THE TIED CARD OF 'viatorlaw39.BundleSearches'. -/
def bundleSearchesCard : Claim7 := { stood := { row := bundleSearchesRow, standIns := [], harness := (true, "1584ebe7643be337f52f1d88f3c6d561c3c22a5b088cce63233fa64649e67be7"), looks := false }, kinds := [], alts := [], laidByText := true, laidKinds := [.data, .pinned], laidTests := true, laidLooks := .later }
def BundleSearchesCardSaid : Prop := Claim7.holds Tryz.pinned (.plain (OpenSpec.ofChange bundleSearchesSpec)) bundleSearchesCard

/-- THE TIED CARD OF 'viatorlaw39.BundleBoxes'. -/
def bundleBoxesCard : Claim7 := { stood := { row := bundleBoxesRow, standIns := [], harness := (true, "1584ebe7643be337f52f1d88f3c6d561c3c22a5b088cce63233fa64649e67be7"), looks := false }, kinds := [], alts := [], laidByText := true, laidKinds := [.data, .pinned], laidTests := true, laidLooks := .later }
def BundleBoxesCardSaid : Prop := Claim7.holds Tryz.pinned (.plain (OpenSpec.ofChange bundleBoxesSpec)) bundleBoxesCard

/-- THE TIED CARD OF 'viatorlaw39.BundleEquals'. -/
def bundleEqualsCard : Claim7 := { stood := { row := bundleEqualsRow, standIns := [], harness := (true, "1584ebe7643be337f52f1d88f3c6d561c3c22a5b088cce63233fa64649e67be7"), looks := false }, kinds := [], alts := [], laidByText := true, laidKinds := [.data, .pinned], laidTests := true, laidLooks := .later }
def BundleEqualsCardSaid : Prop := Claim7.holds Tryz.pinned (.plain (OpenSpec.ofChange bundleEqualsSpec)) bundleEqualsCard

/-- THE TIED CARD OF 'viatorlaw39.BundleDuring'. -/
def bundleDuringCard : Claim7 := { stood := { row := bundleDuringRow, standIns := [], harness := (true, "1584ebe7643be337f52f1d88f3c6d561c3c22a5b088cce63233fa64649e67be7"), looks := false }, kinds := [], alts := [], laidByText := true, laidKinds := [.data, .pinned], laidTests := true, laidLooks := .later }
def BundleDuringCardSaid : Prop := Claim7.holds Tryz.pinned (.plain (OpenSpec.ofChange bundleDuringSpec)) bundleDuringCard

/-- THE TIED CARD OF 'viatorlaw39.BundleChecks'. -/
def bundleChecksCard : Claim7 := { stood := { row := bundleChecksRow, standIns := [], harness := (true, "1584ebe7643be337f52f1d88f3c6d561c3c22a5b088cce63233fa64649e67be7"), looks := false }, kinds := [], alts := [], laidByText := true, laidKinds := [.data, .pinned], laidTests := true, laidLooks := .later }
def BundleChecksCardSaid : Prop := Claim7.holds Tryz.pinned (.plain (OpenSpec.ofChange bundleChecksSpec)) bundleChecksCard

/-- THE TIED CARD OF 'viatorlaw39.BundleReads'. -/
def bundleReadsCard : Claim7 := { stood := { row := bundleReadsRow, standIns := [], harness := (true, "1584ebe7643be337f52f1d88f3c6d561c3c22a5b088cce63233fa64649e67be7"), looks := false }, kinds := [], alts := [], laidByText := true, laidKinds := [.data, .pinned], laidTests := true, laidLooks := .later }
def BundleReadsCardSaid : Prop := Claim7.holds Tryz.pinned (.plain (OpenSpec.ofChange bundleReadsSpec)) bundleReadsCard

/-- THE TIED CARD OF 'viatorlaw39.BundleBuilds'. -/
def bundleBuildsCard : Claim7 := { stood := { row := bundleBuildsRow, standIns := [], harness := (true, "1584ebe7643be337f52f1d88f3c6d561c3c22a5b088cce63233fa64649e67be7"), looks := false }, kinds := [], alts := [], laidByText := true, laidKinds := [.data, .pinned], laidTests := true, laidLooks := .later }
def BundleBuildsCardSaid : Prop := Claim7.holds Tryz.pinned (.plain (OpenSpec.ofChange bundleBuildsSpec)) bundleBuildsCard

/-- THE TIED CARD OF 'viatorlaw39.BundleFinds'. -/
def bundleFindsCard : Claim7 := { stood := { row := bundleFindsRow, standIns := [], harness := (true, "1584ebe7643be337f52f1d88f3c6d561c3c22a5b088cce63233fa64649e67be7"), looks := false }, kinds := [], alts := [], laidByText := true, laidKinds := [.data, .pinned], laidTests := true, laidLooks := .later }
def BundleFindsCardSaid : Prop := Claim7.holds Tryz.pinned (.plain (OpenSpec.ofChange bundleFindsSpec)) bundleFindsCard

/-- THE TIED CARD OF 'viatorlaw39.BundleAppends'. -/
def bundleAppendsCard : Claim7 := { stood := { row := bundleAppendsRow, standIns := [], harness := (true, "1584ebe7643be337f52f1d88f3c6d561c3c22a5b088cce63233fa64649e67be7"), looks := false }, kinds := [], alts := [], laidByText := true, laidKinds := [.data, .pinned], laidTests := true, laidLooks := .later }
def BundleAppendsCardSaid : Prop := Claim7.holds Tryz.pinned (.plain (OpenSpec.ofChange bundleAppendsSpec)) bundleAppendsCard

/-- THE SECOND FORM's CARD OF 'viatorlaw39.BundleSearches'. -/
def bundleSearchesUptoCard : Claim7 := { stood := { row := bundleSearchesUptoRow, standIns := [], harness := (true, "1584ebe7643be337f52f1d88f3c6d561c3c22a5b088cce63233fa64649e67be7"), looks := false }, kinds := [], alts := [], laidByText := true, laidKinds := [.data, .pinned], laidTests := true, laidLooks := .later }
def BundleSearchesUptoCardSaid : Prop := Claim7.holds Tryz.pinned (.plain (OpenSpec.upto bundleSearchesSpec)) bundleSearchesUptoCard

/-- THE SECOND FORM's CARD OF 'viatorlaw39.BundleBoxes'. -/
def bundleBoxesUptoCard : Claim7 := { stood := { row := bundleBoxesUptoRow, standIns := [], harness := (true, "1584ebe7643be337f52f1d88f3c6d561c3c22a5b088cce63233fa64649e67be7"), looks := false }, kinds := [], alts := [], laidByText := true, laidKinds := [.data, .pinned], laidTests := true, laidLooks := .later }
def BundleBoxesUptoCardSaid : Prop := Claim7.holds Tryz.pinned (.plain (OpenSpec.upto bundleBoxesSpec)) bundleBoxesUptoCard

/-- THE SECOND FORM's CARD OF 'viatorlaw39.BundleEquals'. -/
def bundleEqualsUptoCard : Claim7 := { stood := { row := bundleEqualsUptoRow, standIns := [], harness := (true, "1584ebe7643be337f52f1d88f3c6d561c3c22a5b088cce63233fa64649e67be7"), looks := false }, kinds := [], alts := [], laidByText := true, laidKinds := [.data, .pinned], laidTests := true, laidLooks := .later }
def BundleEqualsUptoCardSaid : Prop := Claim7.holds Tryz.pinned (.plain (OpenSpec.upto bundleEqualsSpec)) bundleEqualsUptoCard

/-- THE SECOND FORM's CARD OF 'viatorlaw39.BundleDuring'. -/
def bundleDuringUptoCard : Claim7 := { stood := { row := bundleDuringUptoRow, standIns := [], harness := (true, "1584ebe7643be337f52f1d88f3c6d561c3c22a5b088cce63233fa64649e67be7"), looks := false }, kinds := [], alts := [], laidByText := true, laidKinds := [.data, .pinned], laidTests := true, laidLooks := .later }
def BundleDuringUptoCardSaid : Prop := Claim7.holds Tryz.pinned (.plain (OpenSpec.upto bundleDuringSpec)) bundleDuringUptoCard

/-- THE SECOND FORM's CARD OF 'viatorlaw39.BundleChecks'. -/
def bundleChecksUptoCard : Claim7 := { stood := { row := bundleChecksUptoRow, standIns := [], harness := (true, "1584ebe7643be337f52f1d88f3c6d561c3c22a5b088cce63233fa64649e67be7"), looks := false }, kinds := [], alts := [], laidByText := true, laidKinds := [.data, .pinned], laidTests := true, laidLooks := .later }
def BundleChecksUptoCardSaid : Prop := Claim7.holds Tryz.pinned (.plain (OpenSpec.upto bundleChecksSpec)) bundleChecksUptoCard

/-- THE SECOND FORM's CARD OF 'viatorlaw39.BundleReads'. -/
def bundleReadsUptoCard : Claim7 := { stood := { row := bundleReadsUptoRow, standIns := [], harness := (true, "1584ebe7643be337f52f1d88f3c6d561c3c22a5b088cce63233fa64649e67be7"), looks := false }, kinds := [], alts := [], laidByText := true, laidKinds := [.data, .pinned], laidTests := true, laidLooks := .later }
def BundleReadsUptoCardSaid : Prop := Claim7.holds Tryz.pinned (.plain (OpenSpec.upto bundleReadsSpec)) bundleReadsUptoCard

/-- THE SECOND FORM's CARD OF 'viatorlaw39.BundleBuilds'. -/
def bundleBuildsUptoCard : Claim7 := { stood := { row := bundleBuildsUptoRow, standIns := [], harness := (true, "1584ebe7643be337f52f1d88f3c6d561c3c22a5b088cce63233fa64649e67be7"), looks := false }, kinds := [], alts := [], laidByText := true, laidKinds := [.data, .pinned], laidTests := true, laidLooks := .later }
def BundleBuildsUptoCardSaid : Prop := Claim7.holds Tryz.pinned (.plain (OpenSpec.upto bundleBuildsSpec)) bundleBuildsUptoCard

/-- THE SECOND FORM's CARD OF 'viatorlaw39.BundleFinds'. -/
def bundleFindsUptoCard : Claim7 := { stood := { row := bundleFindsUptoRow, standIns := [], harness := (true, "1584ebe7643be337f52f1d88f3c6d561c3c22a5b088cce63233fa64649e67be7"), looks := false }, kinds := [], alts := [], laidByText := true, laidKinds := [.data, .pinned], laidTests := true, laidLooks := .later }
def BundleFindsUptoCardSaid : Prop := Claim7.holds Tryz.pinned (.plain (OpenSpec.upto bundleFindsSpec)) bundleFindsUptoCard

/-- THE SECOND FORM's CARD OF 'viatorlaw39.BundleAppends'. -/
def bundleAppendsUptoCard : Claim7 := { stood := { row := bundleAppendsUptoRow, standIns := [], harness := (true, "1584ebe7643be337f52f1d88f3c6d561c3c22a5b088cce63233fa64649e67be7"), looks := false }, kinds := [], alts := [], laidByText := true, laidKinds := [.data, .pinned], laidTests := true, laidLooks := .later }
def BundleAppendsUptoCardSaid : Prop := Claim7.holds Tryz.pinned (.plain (OpenSpec.upto bundleAppendsSpec)) bundleAppendsUptoCard
end Rows
end Go.Proofs.YtfkgaphfdpflmaaGreatDoor
