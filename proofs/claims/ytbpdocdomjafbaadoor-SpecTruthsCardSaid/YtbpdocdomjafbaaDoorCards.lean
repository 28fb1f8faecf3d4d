/-
  DERIVED. GIVEN WITH THE SEED: THE CARDS: each row of YtbpdocdomjafbaaDoorRows.lean that lists a variable, with what it lists TIED to the program's text (the seventh form; the later family's looks); each row that meets fmt, with fmt's text TOLD by the authors' own Lean function (tested against real Go, not proved from fmt's source: count such statements apart). THE CARD IS WHAT COUNTS. Prove the row's statement (the work); the ties are given (YtbpdocdomjafbaaDoorTie.lean); close each card by the builder's one call (the guide's Derived/Test/ToyasCard.lean, 'card_holds'). Laid BY PROGRAM, IN A SANDBOX (cutbox-door.mjs). By AI agents, Wed Nov 11 2026. No macro, syntax, notation, axiom, sorry.
-/
import Derived.Test.YtbpdocdomjafbaaDoorRows
import GoSem.ClaimSeven
namespace Go.Proofs.YtbpdocdomjafbaaDoor
namespace Rows

/-- THE TIED CARD OF 'spoollaw21.SpecParts'. -/
def specPartsCard : Claim7 := { stood := { row := specPartsRow, standIns := [], harness := (true, "39a2314ea67be5b41b1f0108fa2f261c60f1ea8e0ea93539ac8da4076944158d"), looks := false }, kinds := [], alts := [], laidByText := true, laidKinds := [.data], laidTests := true, laidLooks := .later }
def SpecPartsCardSaid : Prop := Claim7.holds Tryd.pinned (.plain (OpenSpec.ofChange specPartsSpec)) specPartsCard

/-- THE TIED CARD OF 'spoollaw21.SpecGaps'. -/
def specGapsCard : Claim7 := { stood := { row := specGapsRow, standIns := [], harness := (true, "39a2314ea67be5b41b1f0108fa2f261c60f1ea8e0ea93539ac8da4076944158d"), looks := false }, kinds := [], alts := [], laidByText := true, laidKinds := [.data], laidTests := true, laidLooks := .later }
def SpecGapsCardSaid : Prop := Claim7.holds Tryd.pinned (.plain (OpenSpec.ofChange specGapsSpec)) specGapsCard

/-- THE TIED CARD OF 'spoollaw21.SpecSounds'. -/
def specSoundsCard : Claim7 := { stood := { row := specSoundsRow, standIns := [], harness := (true, "39a2314ea67be5b41b1f0108fa2f261c60f1ea8e0ea93539ac8da4076944158d"), looks := false }, kinds := [], alts := [], laidByText := true, laidKinds := [.data], laidTests := true, laidLooks := .later }
def SpecSoundsCardSaid : Prop := Claim7.holds Tryd.pinned (.plain (OpenSpec.ofChange specSoundsSpec)) specSoundsCard

/-- THE TIED CARD OF 'spoollaw23.SeekStamps'. -/
def seekStampsCard : Claim7 := { stood := { row := seekStampsRow, standIns := [], harness := (true, "39a2314ea67be5b41b1f0108fa2f261c60f1ea8e0ea93539ac8da4076944158d"), looks := false }, kinds := [], alts := [], laidByText := true, laidKinds := [.data], laidTests := true, laidLooks := .later }
def SeekStampsCardSaid : Prop := Claim7.holds Tryd.pinned (.plain (OpenSpec.ofChange seekStampsSpec)) seekStampsCard

/-- THE TIED CARD OF 'spoollaw21.SpecChecks'. -/
def specChecksCard : Claim7 := { stood := { row := specChecksRow, standIns := [], harness := (true, "39a2314ea67be5b41b1f0108fa2f261c60f1ea8e0ea93539ac8da4076944158d"), looks := false }, kinds := [], alts := [], laidByText := true, laidKinds := [.data], laidTests := true, laidLooks := .later }
def SpecChecksCardSaid : Prop := Claim7.holds Tryd.pinned (.plain (OpenSpec.ofChange specChecksSpec)) specChecksCard

/-- THE TIED CARD OF 'spoollaw23.SeekRest'. -/
def seekRestCard : Claim7 := { stood := { row := seekRestRow, standIns := [], harness := (true, "39a2314ea67be5b41b1f0108fa2f261c60f1ea8e0ea93539ac8da4076944158d"), looks := false }, kinds := [], alts := [], laidByText := true, laidKinds := [.data], laidTests := true, laidLooks := .later }
def SeekRestCardSaid : Prop := Claim7.holds Tryd.pinned (.plain (OpenSpec.ofChange seekRestSpec)) seekRestCard

/-- THE TIED CARD OF 'spoollaw23.SeekEnds'. -/
def seekEndsCard : Claim7 := { stood := { row := seekEndsRow, standIns := [], harness := (true, "39a2314ea67be5b41b1f0108fa2f261c60f1ea8e0ea93539ac8da4076944158d"), looks := false }, kinds := [], alts := [], laidByText := true, laidKinds := [.data], laidTests := true, laidLooks := .later }
def SeekEndsCardSaid : Prop := Claim7.holds Tryd.pinned (.plain (OpenSpec.ofChange seekEndsSpec)) seekEndsCard

/-- THE TIED CARD OF 'spoollaw21.SpecTruths'. -/
def specTruthsCard : Claim7 := { stood := { row := specTruthsRow, standIns := [], harness := (true, "39a2314ea67be5b41b1f0108fa2f261c60f1ea8e0ea93539ac8da4076944158d"), looks := false }, kinds := [], alts := [], laidByText := true, laidKinds := [.data], laidTests := true, laidLooks := .later }
def SpecTruthsCardSaid : Prop := Claim7.holds Tryd.pinned (.plain (OpenSpec.ofChange specTruthsSpec)) specTruthsCard

/-- THE SECOND FORM's CARD OF 'spoollaw21.SpecParts'. -/
def specPartsUptoCard : Claim7 := { stood := { row := specPartsUptoRow, standIns := [], harness := (true, "39a2314ea67be5b41b1f0108fa2f261c60f1ea8e0ea93539ac8da4076944158d"), looks := false }, kinds := [], alts := [], laidByText := true, laidKinds := [.data], laidTests := true, laidLooks := .later }
def SpecPartsUptoCardSaid : Prop := Claim7.holds Tryd.pinned (.plain (OpenSpec.upto specPartsSpec)) specPartsUptoCard

/-- THE SECOND FORM's CARD OF 'spoollaw21.SpecGaps'. -/
def specGapsUptoCard : Claim7 := { stood := { row := specGapsUptoRow, standIns := [], harness := (true, "39a2314ea67be5b41b1f0108fa2f261c60f1ea8e0ea93539ac8da4076944158d"), looks := false }, kinds := [], alts := [], laidByText := true, laidKinds := [.data], laidTests := true, laidLooks := .later }
def SpecGapsUptoCardSaid : Prop := Claim7.holds Tryd.pinned (.plain (OpenSpec.upto specGapsSpec)) specGapsUptoCard

/-- THE SECOND FORM's CARD OF 'spoollaw21.SpecSounds'. -/
def specSoundsUptoCard : Claim7 := { stood := { row := specSoundsUptoRow, standIns := [], harness := (true, "39a2314ea67be5b41b1f0108fa2f261c60f1ea8e0ea93539ac8da4076944158d"), looks := false }, kinds := [], alts := [], laidByText := true, laidKinds := [.data], laidTests := true, laidLooks := .later }
def SpecSoundsUptoCardSaid : Prop := Claim7.holds Tryd.pinned (.plain (OpenSpec.upto specSoundsSpec)) specSoundsUptoCard

/-- THE SECOND FORM's CARD OF 'spoollaw23.SeekStamps'. -/
def seekStampsUptoCard : Claim7 := { stood := { row := seekStampsUptoRow, standIns := [], harness := (true, "39a2314ea67be5b41b1f0108fa2f261c60f1ea8e0ea93539ac8da4076944158d"), looks := false }, kinds := [], alts := [], laidByText := true, laidKinds := [.data], laidTests := true, laidLooks := .later }
def SeekStampsUptoCardSaid : Prop := Claim7.holds Tryd.pinned (.plain (OpenSpec.upto seekStampsSpec)) seekStampsUptoCard

/-- THE SECOND FORM's CARD OF 'spoollaw21.SpecChecks'. -/
def specChecksUptoCard : Claim7 := { stood := { row := specChecksUptoRow, standIns := [], harness := (true, "39a2314ea67be5b41b1f0108fa2f261c60f1ea8e0ea93539ac8da4076944158d"), looks := false }, kinds := [], alts := [], laidByText := true, laidKinds := [.data], laidTests := true, laidLooks := .later }
def SpecChecksUptoCardSaid : Prop := Claim7.holds Tryd.pinned (.plain (OpenSpec.upto specChecksSpec)) specChecksUptoCard

/-- THE SECOND FORM's CARD OF 'spoollaw23.SeekRest'. -/
def seekRestUptoCard : Claim7 := { stood := { row := seekRestUptoRow, standIns := [], harness := (true, "39a2314ea67be5b41b1f0108fa2f261c60f1ea8e0ea93539ac8da4076944158d"), looks := false }, kinds := [], alts := [], laidByText := true, laidKinds := [.data], laidTests := true, laidLooks := .later }
def SeekRestUptoCardSaid : Prop := Claim7.holds Tryd.pinned (.plain (OpenSpec.upto seekRestSpec)) seekRestUptoCard

/-- THE SECOND FORM's CARD OF 'spoollaw23.SeekEnds'. -/
def seekEndsUptoCard : Claim7 := { stood := { row := seekEndsUptoRow, standIns := [], harness := (true, "39a2314ea67be5b41b1f0108fa2f261c60f1ea8e0ea93539ac8da4076944158d"), looks := false }, kinds := [], alts := [], laidByText := true, laidKinds := [.data], laidTests := true, laidLooks := .later }
def SeekEndsUptoCardSaid : Prop := Claim7.holds Tryd.pinned (.plain (OpenSpec.upto seekEndsSpec)) seekEndsUptoCard

/-- THE SECOND FORM's CARD OF 'spoollaw21.SpecTruths'. -/
def specTruthsUptoCard : Claim7 := { stood := { row := specTruthsUptoRow, standIns := [], harness := (true, "39a2314ea67be5b41b1f0108fa2f261c60f1ea8e0ea93539ac8da4076944158d"), looks := false }, kinds := [], alts := [], laidByText := true, laidKinds := [.data], laidTests := true, laidLooks := .later }
def SpecTruthsUptoCardSaid : Prop := Claim7.holds Tryd.pinned (.plain (OpenSpec.upto specTruthsSpec)) specTruthsUptoCard
end Rows
end Go.Proofs.YtbpdocdomjafbaaDoor
