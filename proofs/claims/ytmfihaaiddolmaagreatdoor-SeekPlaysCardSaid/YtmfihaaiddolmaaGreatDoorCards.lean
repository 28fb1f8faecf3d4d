/-
  DERIVED. GIVEN WITH THE SEED: THE CARDS: each row of YtmfihaaiddolmaaGreatDoorRows.lean that lists a variable, with what it lists TIED to the program's text (the seventh form; the later family's looks); each row that meets fmt, with fmt's text TOLD by the authors' own Lean function (tested against real Go, not proved from fmt's source: count such statements apart). THE CARD IS WHAT COUNTS. Prove the row's statement (the work); the ties are given (YtmfihaaiddolmaaGreatDoorTie.lean); close each card by the builder's one call (the guide's Derived/Test/ToyasCard.lean, 'card_holds'). Laid BY PROGRAM, IN A SANDBOX (cutbox-door.mjs). By AI agents, Wed Nov 11 2026. No macro, syntax, notation, axiom, sorry.
-/
import Derived.Test.YtmfihaaiddolmaaGreatDoorRows
import GoSem.ClaimSeven
namespace Go.Proofs.YtmfihaaiddolmaaGreatDoor
namespace Rows

/-- THE TIED CARD OF 'spoollaw13.DecPlays'. -/
def decPlaysCard : Claim7 := { stood := { row := decPlaysRow, standIns := [], harness := (true, "df2e21589fa9fdfa2fa5970271936aac9f8e41e1fa6fe7974a074876a8fc4563"), looks := false }, kinds := [], alts := [], laidByText := true, laidKinds := [.data], laidTests := true, laidLooks := .later }
def DecPlaysCardSaid : Prop := Claim7.holds Tryz.pinned (.plain (OpenSpec.ofChange decPlaysSpec)) decPlaysCard

/-- THE TIED CARD OF 'spoollaw21.SpecPlays'. -/
def specPlaysCard : Claim7 := { stood := { row := specPlaysRow, standIns := [], harness := (true, "df2e21589fa9fdfa2fa5970271936aac9f8e41e1fa6fe7974a074876a8fc4563"), looks := false }, kinds := [], alts := [], laidByText := true, laidKinds := [.data], laidTests := true, laidLooks := .later }
def SpecPlaysCardSaid : Prop := Claim7.holds Tryz.pinned (.plain (OpenSpec.ofChange specPlaysSpec)) specPlaysCard

/-- THE TIED CARD OF 'spoollaw23.SeekPlays'. -/
def seekPlaysCard : Claim7 := { stood := { row := seekPlaysRow, standIns := [], harness := (true, "df2e21589fa9fdfa2fa5970271936aac9f8e41e1fa6fe7974a074876a8fc4563"), looks := false }, kinds := [], alts := [], laidByText := true, laidKinds := [.data], laidTests := true, laidLooks := .later }
def SeekPlaysCardSaid : Prop := Claim7.holds Tryz.pinned (.plain (OpenSpec.ofChange seekPlaysSpec)) seekPlaysCard

/-- THE SECOND FORM's CARD OF 'spoollaw13.DecPlays'. -/
def decPlaysUptoCard : Claim7 := { stood := { row := decPlaysUptoRow, standIns := [], harness := (true, "df2e21589fa9fdfa2fa5970271936aac9f8e41e1fa6fe7974a074876a8fc4563"), looks := false }, kinds := [], alts := [], laidByText := true, laidKinds := [.data], laidTests := true, laidLooks := .later }
def DecPlaysUptoCardSaid : Prop := Claim7.holds Tryz.pinned (.plain (OpenSpec.upto decPlaysSpec)) decPlaysUptoCard

/-- THE SECOND FORM's CARD OF 'spoollaw21.SpecPlays'. -/
def specPlaysUptoCard : Claim7 := { stood := { row := specPlaysUptoRow, standIns := [], harness := (true, "df2e21589fa9fdfa2fa5970271936aac9f8e41e1fa6fe7974a074876a8fc4563"), looks := false }, kinds := [], alts := [], laidByText := true, laidKinds := [.data], laidTests := true, laidLooks := .later }
def SpecPlaysUptoCardSaid : Prop := Claim7.holds Tryz.pinned (.plain (OpenSpec.upto specPlaysSpec)) specPlaysUptoCard

/-- THE SECOND FORM's CARD OF 'spoollaw23.SeekPlays'. -/
def seekPlaysUptoCard : Claim7 := { stood := { row := seekPlaysUptoRow, standIns := [], harness := (true, "df2e21589fa9fdfa2fa5970271936aac9f8e41e1fa6fe7974a074876a8fc4563"), looks := false }, kinds := [], alts := [], laidByText := true, laidKinds := [.data], laidTests := true, laidLooks := .later }
def SeekPlaysUptoCardSaid : Prop := Claim7.holds Tryz.pinned (.plain (OpenSpec.upto seekPlaysSpec)) seekPlaysUptoCard
end Rows
end Go.Proofs.YtmfihaaiddolmaaGreatDoor
