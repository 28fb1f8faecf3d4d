/-
  DERIVED. GIVEN WITH THE SEED: THE CARDS: each row of YtkoljgmapclhkaaGreatDoorRows.lean that lists a variable, with what it lists TIED to the program's text (the seventh form; the later family's looks); each row that meets fmt, with fmt's text TOLD by the authors' own Lean function (tested against real Go, not proved from fmt's source: count such statements apart). THE CARD IS WHAT COUNTS. Prove the row's statement (the work); the ties are given (YtkoljgmapclhkaaGreatDoorTie.lean); close each card by the builder's one call (the guide's Derived/Test/ToyasCard.lean, 'card_holds'). Laid BY PROGRAM, IN A SANDBOX (cutbox-door.mjs). By AI agents, Wed Nov 11 2026. No macro, syntax, notation, axiom, sorry.
-/
import Derived.Test.YtkoljgmapclhkaaGreatDoorRows
import GoSem.ClaimSeven
namespace Go.Proofs.YtkoljgmapclhkaaGreatDoor
namespace Rows

/-- THE TIED CARD OF 'spoollaw15.EncSilence'. -/
def encSilenceCard : Claim7 := { stood := { row := encSilenceRow, standIns := [], harness := (true, "5e4a6c562f1e8a4a9b8636900992363e718951f7c228c1bd2a454c54f8b5f8cb"), looks := false }, kinds := [], alts := [], laidByText := true, laidKinds := [.data, .data, .pinned], laidTests := true, laidLooks := .later }
def EncSilenceCardSaid : Prop := Claim7.holds Tryz.pinned (.plain (OpenSpec.ofChange encSilenceSpec)) encSilenceCard

/-- THE TIED CARD OF 'spoollaw25.ModelFills'. -/
def modelFillsCard : Claim7 := { stood := { row := modelFillsRow, standIns := [], harness := (true, "5e4a6c562f1e8a4a9b8636900992363e718951f7c228c1bd2a454c54f8b5f8cb"), looks := false }, kinds := [], alts := [], laidByText := true, laidKinds := [.data, .data, .pinned], laidTests := true, laidLooks := .later }
def ModelFillsCardSaid : Prop := Claim7.holds Tryz.pinned (.plain (OpenSpec.ofChange modelFillsSpec)) modelFillsCard

/-- THE TIED CARD OF 'spoollaw25.ModelRefuses'. -/
def modelRefusesCard : Claim7 := { stood := { row := modelRefusesRow, standIns := [], harness := (true, "5e4a6c562f1e8a4a9b8636900992363e718951f7c228c1bd2a454c54f8b5f8cb"), looks := false }, kinds := [], alts := [], laidByText := true, laidKinds := [.data, .data, .pinned], laidTests := true, laidLooks := .later }
def ModelRefusesCardSaid : Prop := Claim7.holds Tryz.pinned (.plain (OpenSpec.ofChange modelRefusesSpec)) modelRefusesCard

/-- THE TIED CARD OF 'spoollaw25.ModelAsks'. -/
def modelAsksCard : Claim7 := { stood := { row := modelAsksRow, standIns := [], harness := (true, "5e4a6c562f1e8a4a9b8636900992363e718951f7c228c1bd2a454c54f8b5f8cb"), looks := false }, kinds := [], alts := [], laidByText := true, laidKinds := [.data, .data, .pinned], laidTests := true, laidLooks := .later }
def ModelAsksCardSaid : Prop := Claim7.holds Tryz.pinned (.plain (OpenSpec.ofChange modelAsksSpec)) modelAsksCard

/-- THE TIED CARD OF 'spoollaw25.ModelSilent'. -/
def modelSilentCard : Claim7 := { stood := { row := modelSilentRow, standIns := [], harness := (true, "5e4a6c562f1e8a4a9b8636900992363e718951f7c228c1bd2a454c54f8b5f8cb"), looks := false }, kinds := [], alts := [], laidByText := true, laidKinds := [.data, .data, .pinned], laidTests := true, laidLooks := .later }
def ModelSilentCardSaid : Prop := Claim7.holds Tryz.pinned (.plain (OpenSpec.ofChange modelSilentSpec)) modelSilentCard

/-- THE TIED CARD OF 'spoollaw25.ModelPlays'. -/
def modelPlaysCard : Claim7 := { stood := { row := modelPlaysRow, standIns := [], harness := (true, "5e4a6c562f1e8a4a9b8636900992363e718951f7c228c1bd2a454c54f8b5f8cb"), looks := false }, kinds := [], alts := [], laidByText := true, laidKinds := [.data, .data, .pinned], laidTests := true, laidLooks := .later }
def ModelPlaysCardSaid : Prop := Claim7.holds Tryz.pinned (.plain (OpenSpec.ofChange modelPlaysSpec)) modelPlaysCard

/-- THE SECOND FORM's CARD OF 'spoollaw15.EncSilence'. -/
def encSilenceUptoCard : Claim7 := { stood := { row := encSilenceUptoRow, standIns := [], harness := (true, "5e4a6c562f1e8a4a9b8636900992363e718951f7c228c1bd2a454c54f8b5f8cb"), looks := false }, kinds := [], alts := [], laidByText := true, laidKinds := [.data, .data, .pinned], laidTests := true, laidLooks := .later }
def EncSilenceUptoCardSaid : Prop := Claim7.holds Tryz.pinned (.plain (OpenSpec.upto encSilenceSpec)) encSilenceUptoCard

/-- THE SECOND FORM's CARD OF 'spoollaw25.ModelFills'. -/
def modelFillsUptoCard : Claim7 := { stood := { row := modelFillsUptoRow, standIns := [], harness := (true, "5e4a6c562f1e8a4a9b8636900992363e718951f7c228c1bd2a454c54f8b5f8cb"), looks := false }, kinds := [], alts := [], laidByText := true, laidKinds := [.data, .data, .pinned], laidTests := true, laidLooks := .later }
def ModelFillsUptoCardSaid : Prop := Claim7.holds Tryz.pinned (.plain (OpenSpec.upto modelFillsSpec)) modelFillsUptoCard

/-- THE SECOND FORM's CARD OF 'spoollaw25.ModelRefuses'. -/
def modelRefusesUptoCard : Claim7 := { stood := { row := modelRefusesUptoRow, standIns := [], harness := (true, "5e4a6c562f1e8a4a9b8636900992363e718951f7c228c1bd2a454c54f8b5f8cb"), looks := false }, kinds := [], alts := [], laidByText := true, laidKinds := [.data, .data, .pinned], laidTests := true, laidLooks := .later }
def ModelRefusesUptoCardSaid : Prop := Claim7.holds Tryz.pinned (.plain (OpenSpec.upto modelRefusesSpec)) modelRefusesUptoCard

/-- THE SECOND FORM's CARD OF 'spoollaw25.ModelAsks'. -/
def modelAsksUptoCard : Claim7 := { stood := { row := modelAsksUptoRow, standIns := [], harness := (true, "5e4a6c562f1e8a4a9b8636900992363e718951f7c228c1bd2a454c54f8b5f8cb"), looks := false }, kinds := [], alts := [], laidByText := true, laidKinds := [.data, .data, .pinned], laidTests := true, laidLooks := .later }
def ModelAsksUptoCardSaid : Prop := Claim7.holds Tryz.pinned (.plain (OpenSpec.upto modelAsksSpec)) modelAsksUptoCard

/-- THE SECOND FORM's CARD OF 'spoollaw25.ModelSilent'. -/
def modelSilentUptoCard : Claim7 := { stood := { row := modelSilentUptoRow, standIns := [], harness := (true, "5e4a6c562f1e8a4a9b8636900992363e718951f7c228c1bd2a454c54f8b5f8cb"), looks := false }, kinds := [], alts := [], laidByText := true, laidKinds := [.data, .data, .pinned], laidTests := true, laidLooks := .later }
def ModelSilentUptoCardSaid : Prop := Claim7.holds Tryz.pinned (.plain (OpenSpec.upto modelSilentSpec)) modelSilentUptoCard

/-- THE SECOND FORM's CARD OF 'spoollaw25.ModelPlays'. -/
def modelPlaysUptoCard : Claim7 := { stood := { row := modelPlaysUptoRow, standIns := [], harness := (true, "5e4a6c562f1e8a4a9b8636900992363e718951f7c228c1bd2a454c54f8b5f8cb"), looks := false }, kinds := [], alts := [], laidByText := true, laidKinds := [.data, .data, .pinned], laidTests := true, laidLooks := .later }
def ModelPlaysUptoCardSaid : Prop := Claim7.holds Tryz.pinned (.plain (OpenSpec.upto modelPlaysSpec)) modelPlaysUptoCard
end Rows
end Go.Proofs.YtkoljgmapclhkaaGreatDoor
