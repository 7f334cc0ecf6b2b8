/-
  DERIVED. GIVEN WITH THE SEED: THE CARDS: each row of YtbibemijcdkjhaaDoorRows.lean that lists a variable, with what it lists TIED to the program's text (the seventh form; the later family's looks); each row that meets fmt, with fmt's text TOLD by the authors' own Lean function (tested against real Go, not proved from fmt's source: count such statements apart). THE CARD IS WHAT COUNTS. Prove the row's statement (the work); the ties are given (YtbibemijcdkjhaaDoorTie.lean); close each card by the builder's one call (the guide's Derived/Test/ToyasCard.lean, 'card_holds'). Laid BY PROGRAM, IN A SANDBOX (cutbox-door.mjs). By AI agents, Wed Nov 11 2026. No macro, syntax, notation, axiom, sorry.
-/
import Derived.Test.YtbibemijcdkjhaaDoorRows
import GoSem.ClaimSeven
namespace Go.Proofs.YtbibemijcdkjhaaDoor
namespace Rows

/-- THE TIED CARD OF 'viatorlaw40.ManifestSegments'. -/
def manifestSegmentsCard : Claim7 := { stood := { row := manifestSegmentsRow, standIns := [], harness := (true, "bed98e2bdd95d3798d9478b6aad4cae063d4204527223458f55f11a21005a8ff"), looks := false }, kinds := [], alts := [], laidByText := true, laidKinds := [.data, .data, .data], laidTests := true, laidLooks := .later }
def ManifestSegmentsCardSaid : Prop := Claim7.holds Tryd.pinned (.plain (OpenSpec.ofChange manifestSegmentsSpec)) manifestSegmentsCard

/-- THE TIED CARD OF 'viatorlaw40.ManifestChecks'. -/
def manifestChecksCard : Claim7 := { stood := { row := manifestChecksRow, standIns := [], harness := (true, "bed98e2bdd95d3798d9478b6aad4cae063d4204527223458f55f11a21005a8ff"), looks := false }, kinds := [], alts := [], laidByText := true, laidKinds := [.data, .data, .data], laidTests := true, laidLooks := .later }
def ManifestChecksCardSaid : Prop := Claim7.holds Tryd.pinned (.plain (OpenSpec.ofChange manifestChecksSpec)) manifestChecksCard

/-- THE TIED CARD OF 'viatorlaw40.ManifestBegins'. -/
def manifestBeginsCard : Claim7 := { stood := { row := manifestBeginsRow, standIns := [], harness := (true, "bed98e2bdd95d3798d9478b6aad4cae063d4204527223458f55f11a21005a8ff"), looks := false }, kinds := [], alts := [], laidByText := true, laidKinds := [.data, .data, .data], laidTests := true, laidLooks := .later }
def ManifestBeginsCardSaid : Prop := Claim7.holds Tryd.pinned (.plain (OpenSpec.ofChange manifestBeginsSpec)) manifestBeginsCard

/-- THE TIED CARD OF 'viatorlaw40.ManifestKeeps'. -/
def manifestKeepsCard : Claim7 := { stood := { row := manifestKeepsRow, standIns := [], harness := (true, "bed98e2bdd95d3798d9478b6aad4cae063d4204527223458f55f11a21005a8ff"), looks := false }, kinds := [], alts := [], laidByText := true, laidKinds := [.data, .data, .data], laidTests := true, laidLooks := .later }
def ManifestKeepsCardSaid : Prop := Claim7.holds Tryd.pinned (.plain (OpenSpec.ofChange manifestKeepsSpec)) manifestKeepsCard

/-- THE SECOND FORM's CARD OF 'viatorlaw40.ManifestSegments'. -/
def manifestSegmentsUptoCard : Claim7 := { stood := { row := manifestSegmentsUptoRow, standIns := [], harness := (true, "bed98e2bdd95d3798d9478b6aad4cae063d4204527223458f55f11a21005a8ff"), looks := false }, kinds := [], alts := [], laidByText := true, laidKinds := [.data, .data, .data], laidTests := true, laidLooks := .later }
def ManifestSegmentsUptoCardSaid : Prop := Claim7.holds Tryd.pinned (.plain (OpenSpec.upto manifestSegmentsSpec)) manifestSegmentsUptoCard

/-- THE SECOND FORM's CARD OF 'viatorlaw40.ManifestChecks'. -/
def manifestChecksUptoCard : Claim7 := { stood := { row := manifestChecksUptoRow, standIns := [], harness := (true, "bed98e2bdd95d3798d9478b6aad4cae063d4204527223458f55f11a21005a8ff"), looks := false }, kinds := [], alts := [], laidByText := true, laidKinds := [.data, .data, .data], laidTests := true, laidLooks := .later }
def ManifestChecksUptoCardSaid : Prop := Claim7.holds Tryd.pinned (.plain (OpenSpec.upto manifestChecksSpec)) manifestChecksUptoCard

/-- THE SECOND FORM's CARD OF 'viatorlaw40.ManifestBegins'. -/
def manifestBeginsUptoCard : Claim7 := { stood := { row := manifestBeginsUptoRow, standIns := [], harness := (true, "bed98e2bdd95d3798d9478b6aad4cae063d4204527223458f55f11a21005a8ff"), looks := false }, kinds := [], alts := [], laidByText := true, laidKinds := [.data, .data, .data], laidTests := true, laidLooks := .later }
def ManifestBeginsUptoCardSaid : Prop := Claim7.holds Tryd.pinned (.plain (OpenSpec.upto manifestBeginsSpec)) manifestBeginsUptoCard

/-- THE SECOND FORM's CARD OF 'viatorlaw40.ManifestKeeps'. -/
def manifestKeepsUptoCard : Claim7 := { stood := { row := manifestKeepsUptoRow, standIns := [], harness := (true, "bed98e2bdd95d3798d9478b6aad4cae063d4204527223458f55f11a21005a8ff"), looks := false }, kinds := [], alts := [], laidByText := true, laidKinds := [.data, .data, .data], laidTests := true, laidLooks := .later }
def ManifestKeepsUptoCardSaid : Prop := Claim7.holds Tryd.pinned (.plain (OpenSpec.upto manifestKeepsSpec)) manifestKeepsUptoCard
end Rows
end Go.Proofs.YtbibemijcdkjhaaDoor
