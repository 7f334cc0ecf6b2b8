/-
  DERIVED. GIVEN WITH THE SEED: THE CARDS: each row of YtbibemijcdkjhaaGreatDoorRows.lean that lists a variable, with what it lists TIED to the program's text (the seventh form; the later family's looks); each row that meets fmt, with fmt's text TOLD by the authors' own Lean function (tested against real Go, not proved from fmt's source: count such statements apart). THE CARD IS WHAT COUNTS. Prove the row's statement (the work); the ties are given (YtbibemijcdkjhaaGreatDoorTie.lean); close each card by the builder's one call (the guide's Derived/Test/ToyasCard.lean, 'card_holds'). Laid BY PROGRAM, IN A SANDBOX (cutbox-door.mjs). By AI agents, Wed Nov 11 2026. No macro, syntax, notation, axiom, sorry.
-/
import Derived.Test.YtbibemijcdkjhaaGreatDoorRows
import GoSem.ClaimSeven
namespace Go.Proofs.YtbibemijcdkjhaaGreatDoor
namespace Rows

/-- THE TIED CARD OF 'viatorlaw40.ManifestRuns'. -/
def manifestRunsCard : Claim7 := { stood := { row := manifestRunsRow, standIns := [], harness := (true, "75ed40ecdae35fe39caa681945729e8be498e0e2caeb3fe34fea808459d7c1ae"), looks := true }, kinds := [], alts := [], laidByText := true, laidKinds := [.data, .data, .data], laidTests := true, laidLooks := .later }
def ManifestRunsCardSaid : Prop := Claim7.holds Tryz.pinned (.plain (OpenSpec.ofChange manifestRunsSpec)) manifestRunsCard

/-- THE TIED CARD OF 'viatorlaw40.ManifestEncodes'. -/
def manifestEncodesCard : Claim7 := { stood := { row := manifestEncodesRow, standIns := [], harness := (true, "75ed40ecdae35fe39caa681945729e8be498e0e2caeb3fe34fea808459d7c1ae"), looks := true }, kinds := [], alts := [], laidByText := true, laidKinds := [.data, .data, .data, .sentinel, .sentinel], laidTests := true, laidLooks := .later }
def ManifestEncodesCardSaid : Prop := Claim7.holds Tryz.pinned (.plain (OpenSpec.ofChange manifestEncodesSpec)) manifestEncodesCard

/-- THE TIED CARD OF 'viatorlaw40.ManifestDecodes'. -/
def manifestDecodesCard : Claim7 := { stood := { row := manifestDecodesRow, standIns := [], harness := (true, "75ed40ecdae35fe39caa681945729e8be498e0e2caeb3fe34fea808459d7c1ae"), looks := true }, kinds := [], alts := [], laidByText := true, laidKinds := [.data, .data, .data, .sentinel, .sentinel], laidTests := true, laidLooks := .later }
def ManifestDecodesCardSaid : Prop := Claim7.holds Tryz.pinned (.plain (OpenSpec.ofChange manifestDecodesSpec)) manifestDecodesCard

/-- THE TIED CARD OF 'viatorlaw40.ManifestClones'. -/
def manifestClonesCard : Claim7 := { stood := { row := manifestClonesRow, standIns := [], harness := (true, "75ed40ecdae35fe39caa681945729e8be498e0e2caeb3fe34fea808459d7c1ae"), looks := true }, kinds := [], alts := [], laidByText := true, laidKinds := [.data, .data, .data], laidTests := true, laidLooks := .later }
def ManifestClonesCardSaid : Prop := Claim7.holds Tryz.pinned (.plain (OpenSpec.ofChange manifestClonesSpec)) manifestClonesCard

/-- THE TIED CARD OF 'viatorlaw40.ManifestReplays'. -/
def manifestReplaysCard : Claim7 := { stood := { row := manifestReplaysRow, standIns := [], harness := (true, "75ed40ecdae35fe39caa681945729e8be498e0e2caeb3fe34fea808459d7c1ae"), looks := true }, kinds := [], alts := [], laidByText := true, laidKinds := [.data, .data, .data, .sentinel, .sentinel], laidTests := true, laidLooks := .later }
def ManifestReplaysCardSaid : Prop := Claim7.holds Tryz.pinned (.plain (OpenSpec.ofChange manifestReplaysSpec)) manifestReplaysCard

/-- THE SECOND FORM's CARD OF 'viatorlaw40.ManifestRuns'. -/
def manifestRunsUptoCard : Claim7 := { stood := { row := manifestRunsUptoRow, standIns := [], harness := (true, "75ed40ecdae35fe39caa681945729e8be498e0e2caeb3fe34fea808459d7c1ae"), looks := true }, kinds := [], alts := [], laidByText := true, laidKinds := [.data, .data, .data], laidTests := true, laidLooks := .later }
def ManifestRunsUptoCardSaid : Prop := Claim7.holds Tryz.pinned (.plain (OpenSpec.upto manifestRunsSpec)) manifestRunsUptoCard

/-- THE SECOND FORM's CARD OF 'viatorlaw40.ManifestEncodes'. -/
def manifestEncodesUptoCard : Claim7 := { stood := { row := manifestEncodesUptoRow, standIns := [], harness := (true, "75ed40ecdae35fe39caa681945729e8be498e0e2caeb3fe34fea808459d7c1ae"), looks := true }, kinds := [], alts := [], laidByText := true, laidKinds := [.data, .data, .data, .sentinel, .sentinel], laidTests := true, laidLooks := .later }
def ManifestEncodesUptoCardSaid : Prop := Claim7.holds Tryz.pinned (.plain (OpenSpec.upto manifestEncodesSpec)) manifestEncodesUptoCard

/-- THE SECOND FORM's CARD OF 'viatorlaw40.ManifestDecodes'. -/
def manifestDecodesUptoCard : Claim7 := { stood := { row := manifestDecodesUptoRow, standIns := [], harness := (true, "75ed40ecdae35fe39caa681945729e8be498e0e2caeb3fe34fea808459d7c1ae"), looks := true }, kinds := [], alts := [], laidByText := true, laidKinds := [.data, .data, .data, .sentinel, .sentinel], laidTests := true, laidLooks := .later }
def ManifestDecodesUptoCardSaid : Prop := Claim7.holds Tryz.pinned (.plain (OpenSpec.upto manifestDecodesSpec)) manifestDecodesUptoCard

/-- THE SECOND FORM's CARD OF 'viatorlaw40.ManifestClones'. -/
def manifestClonesUptoCard : Claim7 := { stood := { row := manifestClonesUptoRow, standIns := [], harness := (true, "75ed40ecdae35fe39caa681945729e8be498e0e2caeb3fe34fea808459d7c1ae"), looks := true }, kinds := [], alts := [], laidByText := true, laidKinds := [.data, .data, .data], laidTests := true, laidLooks := .later }
def ManifestClonesUptoCardSaid : Prop := Claim7.holds Tryz.pinned (.plain (OpenSpec.upto manifestClonesSpec)) manifestClonesUptoCard

/-- THE SECOND FORM's CARD OF 'viatorlaw40.ManifestReplays'. -/
def manifestReplaysUptoCard : Claim7 := { stood := { row := manifestReplaysUptoRow, standIns := [], harness := (true, "75ed40ecdae35fe39caa681945729e8be498e0e2caeb3fe34fea808459d7c1ae"), looks := true }, kinds := [], alts := [], laidByText := true, laidKinds := [.data, .data, .data, .sentinel, .sentinel], laidTests := true, laidLooks := .later }
def ManifestReplaysUptoCardSaid : Prop := Claim7.holds Tryz.pinned (.plain (OpenSpec.upto manifestReplaysSpec)) manifestReplaysUptoCard
end Rows
end Go.Proofs.YtbibemijcdkjhaaGreatDoor
