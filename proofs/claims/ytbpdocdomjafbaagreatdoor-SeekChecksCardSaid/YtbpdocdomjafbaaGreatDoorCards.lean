/-
  DERIVED. GIVEN WITH THE SEED: THE CARDS: each row of YtbpdocdomjafbaaGreatDoorRows.lean that lists a variable, with what it lists TIED to the program's text (the seventh form; the later family's looks); each row that meets fmt, with fmt's text TOLD by the authors' own Lean function (tested against real Go, not proved from fmt's source: count such statements apart). THE CARD IS WHAT COUNTS. Prove the row's statement (the work); the ties are given (YtbpdocdomjafbaaGreatDoorTie.lean); close each card by the builder's one call (the guide's Derived/Test/ToyasCard.lean, 'card_holds'). Laid BY PROGRAM, IN A SANDBOX (cutbox-door.mjs). By AI agents, Wed Nov 11 2026. No macro, syntax, notation, axiom, sorry.
-/
import Derived.Test.YtbpdocdomjafbaaGreatDoorRows
import GoSem.ClaimSeven
namespace Go.Proofs.YtbpdocdomjafbaaGreatDoor
namespace Rows

/-- THE TIED CARD OF 'spoollaw23.SeekChecks'. -/
def seekChecksCard : Claim7 := { stood := { row := seekChecksRow, standIns := [], harness := (true, "baca54aaf39819211b03e1067d85ec95c9f2c96c6aba578147be8a633457c396"), looks := false }, kinds := [], alts := [], laidByText := true, laidKinds := [.data], laidTests := true, laidLooks := .later }
def SeekChecksCardSaid : Prop := Claim7.holds Tryz.pinned (.plain (OpenSpec.ofChange seekChecksSpec)) seekChecksCard

/-- THE SECOND FORM's CARD OF 'spoollaw23.SeekChecks'. -/
def seekChecksUptoCard : Claim7 := { stood := { row := seekChecksUptoRow, standIns := [], harness := (true, "baca54aaf39819211b03e1067d85ec95c9f2c96c6aba578147be8a633457c396"), looks := false }, kinds := [], alts := [], laidByText := true, laidKinds := [.data], laidTests := true, laidLooks := .later }
def SeekChecksUptoCardSaid : Prop := Claim7.holds Tryz.pinned (.plain (OpenSpec.upto seekChecksSpec)) seekChecksUptoCard
end Rows
end Go.Proofs.YtbpdocdomjafbaaGreatDoor
