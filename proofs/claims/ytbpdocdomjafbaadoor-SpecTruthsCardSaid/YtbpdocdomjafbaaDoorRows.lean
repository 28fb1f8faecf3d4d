/-
  NARROWER THAN 'FOR EVERY INPUT', by the rows' own cells (each row's printed sentence says how): SpecParts: laid · SpecGaps: laid · SpecSounds: laid · SeekStamps: laid · SpecChecks: laid · SeekRest: laid · SeekEnds: laid · SpecTruths: laid.
  DERIVED. THE GIVEN ROWS OF THIS SEAT. 8 by the template 'for every input the law returns true; each argument reads behind the call as it read before'; 0 by the template 'total and deterministic' (their statements: YtbpdocdomjafbaaDoorTotals.lean).
  GIVEN WITH THE SEED: the statements are not yours to turn. If you find one false, say at which input.
  Laid BY PROGRAM, IN A SANDBOX (cutbox-rows.mjs): the forced cells as the released guide's own fill.sh prints them over the translation 7bded17bababc2dc… (all of the seat's roots in one cut). By AI agents, Wed Nov 11 2026. No macro, syntax, notation, axiom, sorry.
-/
import Derived.Test.YtbpdocdomjafbaaDoorChecked
import GoSem.Claim
import GoSem.ClaimJoined
import GoSem.ClaimMapViews
import Derived.JoinedTies
import Derived.KernelRfl
namespace Go.Proofs.YtbpdocdomjafbaaDoor
/- THE CELL 'sum', in the pinned program and in every row, IS THE sha256 OF THE DUMP (.gsa) THAT YtbpdocdomjafbaaDoorProg.lean LOADS. Nothing in Lean hashes anything: it is a label: what it is worth is what the hold of that sum in a sandbox is worth. -/
noncomputable def Tryd.pinned : Pinned := { name := "ytbpdocdomjafbaadoor", sum := "7bded17bababc2dcae959087db222a3f44d721f5874eede3db632575da5754d2", checked := Tryd.checked }
namespace Rows
def none {H : Type} : Left H := { results := [], args := [] }

/- WHAT THE LISTED PACKAGE-LEVEL VARIABLES READ AS WHEN THE CALL BEGINS. Each datum BY PROGRAM (the guide's laid-datum.mjs) off the statement by which the dump's own 'gosem.cut.vars' lays the variable. In a bare row this is a premise. The card (YtbpdocdomjafbaaDoorCards.lean) ties it to the program's text. -/
def laid_spool_level_first {H : Type} : DataW H := .agg [.lit (.int .i64 0), .lit (.int .i64 2), .lit (.int .i64 4), .lit (.int .i64 8), .lit (.int .i64 16)]

/-- 'spoollaw21.SpecParts': WHATEVER THE INPUT: true; the input reads as it did. -/
def specPartsSpec : ChangeSpec := { name := "specParts", fn := fun _ => fun
  | [d1, d2, d3] => { results := [.lit (.bool true)], args := [d1, d2, d3] }
  | _ => none }
def specPartsRow : OpenClaim := { program := "ytbpdocdomjafbaadoor", sum := "7bded17bababc2dcae959087db222a3f44d721f5874eede3db632575da5754d2", func := "spool/spoollaw21.SpecParts", spec := "specParts", unfollowed := true, recurses := true, named := ["spool/level.first"], plainKeys := false, apart := false, laid := [("spool/level.first", laid_spool_level_first)] }
def SpecPartsSaid : Prop := specPartsRow.holds Tryd.pinned (OpenSpec.ofChange specPartsSpec)

/-- ITS FALSE NEIGHBOUR: 'it returns false'. Refute it at one input. -/
def specPartsWrong : ChangeSpec := { name := "specParts", fn := fun _ => fun
  | [d1, d2, d3] => { results := [.lit (.bool false)], args := [d1, d2, d3] }
  | _ => none }
def SpecPartsWrongFalsely : Prop := specPartsRow.holds Tryd.pinned (OpenSpec.ofChange specPartsWrong)

/-- 'spoollaw21.SpecGaps': WHATEVER THE INPUT: true; the input reads as it did. -/
def specGapsSpec : ChangeSpec := { name := "specGaps", fn := fun _ => fun
  | [d1, d2, d3, d4, d5] => { results := [.lit (.bool true)], args := [d1, d2, d3, d4, d5] }
  | _ => none }
def specGapsRow : OpenClaim := { program := "ytbpdocdomjafbaadoor", sum := "7bded17bababc2dcae959087db222a3f44d721f5874eede3db632575da5754d2", func := "spool/spoollaw21.SpecGaps", spec := "specGaps", unfollowed := true, recurses := true, named := ["spool/level.first"], plainKeys := false, apart := false, laid := [("spool/level.first", laid_spool_level_first)] }
def SpecGapsSaid : Prop := specGapsRow.holds Tryd.pinned (OpenSpec.ofChange specGapsSpec)

/-- ITS FALSE NEIGHBOUR: 'it returns false'. Refute it at one input. -/
def specGapsWrong : ChangeSpec := { name := "specGaps", fn := fun _ => fun
  | [d1, d2, d3, d4, d5] => { results := [.lit (.bool false)], args := [d1, d2, d3, d4, d5] }
  | _ => none }
def SpecGapsWrongFalsely : Prop := specGapsRow.holds Tryd.pinned (OpenSpec.ofChange specGapsWrong)

/-- 'spoollaw21.SpecSounds': WHATEVER THE INPUT: true; the input reads as it did. -/
def specSoundsSpec : ChangeSpec := { name := "specSounds", fn := fun _ => fun
  | [d1, d2] => { results := [.lit (.bool true)], args := [d1, d2] }
  | _ => none }
def specSoundsRow : OpenClaim := { program := "ytbpdocdomjafbaadoor", sum := "7bded17bababc2dcae959087db222a3f44d721f5874eede3db632575da5754d2", func := "spool/spoollaw21.SpecSounds", spec := "specSounds", unfollowed := true, recurses := true, named := ["spool/level.first"], plainKeys := false, apart := false, laid := [("spool/level.first", laid_spool_level_first)] }
def SpecSoundsSaid : Prop := specSoundsRow.holds Tryd.pinned (OpenSpec.ofChange specSoundsSpec)

/-- ITS FALSE NEIGHBOUR: 'it returns false'. Refute it at one input. -/
def specSoundsWrong : ChangeSpec := { name := "specSounds", fn := fun _ => fun
  | [d1, d2] => { results := [.lit (.bool false)], args := [d1, d2] }
  | _ => none }
def SpecSoundsWrongFalsely : Prop := specSoundsRow.holds Tryd.pinned (OpenSpec.ofChange specSoundsWrong)

/-- 'spoollaw23.SeekStamps': WHATEVER THE INPUT: true; the input reads as it did. -/
def seekStampsSpec : ChangeSpec := { name := "seekStamps", fn := fun _ => fun
  | [d1, d2, d3] => { results := [.lit (.bool true)], args := [d1, d2, d3] }
  | _ => none }
def seekStampsRow : OpenClaim := { program := "ytbpdocdomjafbaadoor", sum := "7bded17bababc2dcae959087db222a3f44d721f5874eede3db632575da5754d2", func := "spool/spoollaw23.SeekStamps", spec := "seekStamps", unfollowed := true, recurses := true, named := ["spool/level.first"], plainKeys := false, apart := false, laid := [("spool/level.first", laid_spool_level_first)] }
def SeekStampsSaid : Prop := seekStampsRow.holds Tryd.pinned (OpenSpec.ofChange seekStampsSpec)

/-- ITS FALSE NEIGHBOUR: 'it returns false'. Refute it at one input. -/
def seekStampsWrong : ChangeSpec := { name := "seekStamps", fn := fun _ => fun
  | [d1, d2, d3] => { results := [.lit (.bool false)], args := [d1, d2, d3] }
  | _ => none }
def SeekStampsWrongFalsely : Prop := seekStampsRow.holds Tryd.pinned (OpenSpec.ofChange seekStampsWrong)

/-- 'spoollaw21.SpecChecks': WHATEVER THE INPUT: true; the input reads as it did. -/
def specChecksSpec : ChangeSpec := { name := "specChecks", fn := fun _ => fun
  | [d1, d2, d3, d4] => { results := [.lit (.bool true)], args := [d1, d2, d3, d4] }
  | _ => none }
def specChecksRow : OpenClaim := { program := "ytbpdocdomjafbaadoor", sum := "7bded17bababc2dcae959087db222a3f44d721f5874eede3db632575da5754d2", func := "spool/spoollaw21.SpecChecks", spec := "specChecks", inPlace := ["internal/abi.NoEscape"], unfollowed := true, recurses := true, named := ["spool/level.first"], plainKeys := false, apart := false, laid := [("spool/level.first", laid_spool_level_first)] }
def SpecChecksSaid : Prop := specChecksRow.holds Tryd.pinned (OpenSpec.ofChange specChecksSpec)

/-- ITS FALSE NEIGHBOUR: 'it returns false'. Refute it at one input. -/
def specChecksWrong : ChangeSpec := { name := "specChecks", fn := fun _ => fun
  | [d1, d2, d3, d4] => { results := [.lit (.bool false)], args := [d1, d2, d3, d4] }
  | _ => none }
def SpecChecksWrongFalsely : Prop := specChecksRow.holds Tryd.pinned (OpenSpec.ofChange specChecksWrong)

/-- 'spoollaw23.SeekRest': WHATEVER THE INPUT: true; the input reads as it did. -/
def seekRestSpec : ChangeSpec := { name := "seekRest", fn := fun _ => fun
  | [d1, d2] => { results := [.lit (.bool true)], args := [d1, d2] }
  | _ => none }
def seekRestRow : OpenClaim := { program := "ytbpdocdomjafbaadoor", sum := "7bded17bababc2dcae959087db222a3f44d721f5874eede3db632575da5754d2", func := "spool/spoollaw23.SeekRest", spec := "seekRest", unfollowed := true, recurses := true, named := ["spool/level.first"], plainKeys := false, apart := false, laid := [("spool/level.first", laid_spool_level_first)] }
def SeekRestSaid : Prop := seekRestRow.holds Tryd.pinned (OpenSpec.ofChange seekRestSpec)

/-- ITS FALSE NEIGHBOUR: 'it returns false'. Refute it at one input. -/
def seekRestWrong : ChangeSpec := { name := "seekRest", fn := fun _ => fun
  | [d1, d2] => { results := [.lit (.bool false)], args := [d1, d2] }
  | _ => none }
def SeekRestWrongFalsely : Prop := seekRestRow.holds Tryd.pinned (OpenSpec.ofChange seekRestWrong)

/-- 'spoollaw23.SeekEnds': WHATEVER THE INPUT: true; the input reads as it did. -/
def seekEndsSpec : ChangeSpec := { name := "seekEnds", fn := fun _ => fun
  | [d] => { results := [.lit (.bool true)], args := [d] }
  | _ => none }
def seekEndsRow : OpenClaim := { program := "ytbpdocdomjafbaadoor", sum := "7bded17bababc2dcae959087db222a3f44d721f5874eede3db632575da5754d2", func := "spool/spoollaw23.SeekEnds", spec := "seekEnds", unfollowed := true, recurses := true, named := ["spool/level.first"], plainKeys := false, apart := false, laid := [("spool/level.first", laid_spool_level_first)] }
def SeekEndsSaid : Prop := seekEndsRow.holds Tryd.pinned (OpenSpec.ofChange seekEndsSpec)

/-- ITS FALSE NEIGHBOUR: 'it returns false'. Refute it at one input. -/
def seekEndsWrong : ChangeSpec := { name := "seekEnds", fn := fun _ => fun
  | [d] => { results := [.lit (.bool false)], args := [d] }
  | _ => none }
def SeekEndsWrongFalsely : Prop := seekEndsRow.holds Tryd.pinned (OpenSpec.ofChange seekEndsWrong)

/-- 'spoollaw21.SpecTruths': WHATEVER THE INPUT: true; the input reads as it did. -/
def specTruthsSpec : ChangeSpec := { name := "specTruths", fn := fun _ => fun
  | [d1, d2] => { results := [.lit (.bool true)], args := [d1, d2] }
  | _ => none }
def specTruthsRow : OpenClaim := { program := "ytbpdocdomjafbaadoor", sum := "7bded17bababc2dcae959087db222a3f44d721f5874eede3db632575da5754d2", func := "spool/spoollaw21.SpecTruths", spec := "specTruths", inPlace := ["internal/abi.NoEscape"], unfollowed := true, recurses := true, named := ["spool/level.first"], plainKeys := false, apart := false, laid := [("spool/level.first", laid_spool_level_first)] }
def SpecTruthsSaid : Prop := specTruthsRow.holds Tryd.pinned (OpenSpec.ofChange specTruthsSpec)

/-- ITS FALSE NEIGHBOUR: 'it returns false'. Refute it at one input. -/
def specTruthsWrong : ChangeSpec := { name := "specTruths", fn := fun _ => fun
  | [d1, d2] => { results := [.lit (.bool false)], args := [d1, d2] }
  | _ => none }
def SpecTruthsWrongFalsely : Prop := specTruthsRow.holds Tryd.pinned (OpenSpec.ofChange specTruthsWrong)

/- THE SECOND FORM. 'bulk': how many values and letters a reading holds, each counted each time it is reached (what is shared counts as often as it is met; a slice's spare places count too). A statement '..UptoSaid' is the law's where the arguments, and the package variables that the reading takes, are together of bulk at most 1048576: NARROWER than '..Said'. Prove '..Said' where nothing that the law and all that it calls make is longer than what came in: it says more and counts as full. Else prove '..UptoSaid'. A law counts once. -/
mutual
def uptoBulk {H : Type} : DataW H → Nat
  | .lit (.string bytes) => bytes.length + 1
  | .lit _ => 1
  | .nil => 1
  | .ptr d => uptoBulk d + 1
  | .slice elems spare => uptoBulkAll elems + uptoBulkAll spare + 1
  | .agg parts => uptoBulkAll parts + 1
  | .iface _ d => uptoBulk d + 1
  | .map entries => uptoBulkEntries entries + 1
  | .held _ => 1
def uptoBulkAll {H : Type} : List (DataW H) → Nat
  | [] => 0
  | d :: r => uptoBulk d + uptoBulkAll r
def uptoBulkEntries {H : Type} : List (Lit × DataW H) → Nat
  | [] => 0
  | x :: r => uptoBulkEntry x + uptoBulkEntries r
def uptoBulkEntry {H : Type} : Lit × DataW H → Nat
  | (.string bytes, d) => bytes.length + uptoBulk d + 1
  | (_, d) => uptoBulk d + 1
 end
def uptoSmall : (H : Type) → List (DataW H) → Bool := fun _ ds => decide (uptoBulkAll ds ≤ 1048576)
def OpenSpec.upto (s : _root_.Go.ChangeSpec) : _root_.Go.OpenSpec := { _root_.Go.OpenSpec.ofChange s with cond := some uptoSmall }

/-- 'spoollaw21.SpecParts', WHERE WHAT IT READS IS OF BULK AT MOST 1048576: true; the input reads as it did. -/
def specPartsUptoRow : OpenClaim := { program := "ytbpdocdomjafbaadoor", sum := "7bded17bababc2dcae959087db222a3f44d721f5874eede3db632575da5754d2", func := "spool/spoollaw21.SpecParts", spec := "specParts", unfollowed := true, recurses := true, named := ["spool/level.first"], plainKeys := false, apart := false, laid := [("spool/level.first", laid_spool_level_first)], narrowed := true }
def SpecPartsUptoSaid : Prop := specPartsUptoRow.holds Tryd.pinned (OpenSpec.upto specPartsSpec)

/-- 'spoollaw21.SpecGaps', WHERE WHAT IT READS IS OF BULK AT MOST 1048576: true; the input reads as it did. -/
def specGapsUptoRow : OpenClaim := { program := "ytbpdocdomjafbaadoor", sum := "7bded17bababc2dcae959087db222a3f44d721f5874eede3db632575da5754d2", func := "spool/spoollaw21.SpecGaps", spec := "specGaps", unfollowed := true, recurses := true, named := ["spool/level.first"], plainKeys := false, apart := false, laid := [("spool/level.first", laid_spool_level_first)], narrowed := true }
def SpecGapsUptoSaid : Prop := specGapsUptoRow.holds Tryd.pinned (OpenSpec.upto specGapsSpec)

/-- 'spoollaw21.SpecSounds', WHERE WHAT IT READS IS OF BULK AT MOST 1048576: true; the input reads as it did. -/
def specSoundsUptoRow : OpenClaim := { program := "ytbpdocdomjafbaadoor", sum := "7bded17bababc2dcae959087db222a3f44d721f5874eede3db632575da5754d2", func := "spool/spoollaw21.SpecSounds", spec := "specSounds", unfollowed := true, recurses := true, named := ["spool/level.first"], plainKeys := false, apart := false, laid := [("spool/level.first", laid_spool_level_first)], narrowed := true }
def SpecSoundsUptoSaid : Prop := specSoundsUptoRow.holds Tryd.pinned (OpenSpec.upto specSoundsSpec)

/-- 'spoollaw23.SeekStamps', WHERE WHAT IT READS IS OF BULK AT MOST 1048576: true; the input reads as it did. -/
def seekStampsUptoRow : OpenClaim := { program := "ytbpdocdomjafbaadoor", sum := "7bded17bababc2dcae959087db222a3f44d721f5874eede3db632575da5754d2", func := "spool/spoollaw23.SeekStamps", spec := "seekStamps", unfollowed := true, recurses := true, named := ["spool/level.first"], plainKeys := false, apart := false, laid := [("spool/level.first", laid_spool_level_first)], narrowed := true }
def SeekStampsUptoSaid : Prop := seekStampsUptoRow.holds Tryd.pinned (OpenSpec.upto seekStampsSpec)

/-- 'spoollaw21.SpecChecks', WHERE WHAT IT READS IS OF BULK AT MOST 1048576: true; the input reads as it did. -/
def specChecksUptoRow : OpenClaim := { program := "ytbpdocdomjafbaadoor", sum := "7bded17bababc2dcae959087db222a3f44d721f5874eede3db632575da5754d2", func := "spool/spoollaw21.SpecChecks", spec := "specChecks", inPlace := ["internal/abi.NoEscape"], unfollowed := true, recurses := true, named := ["spool/level.first"], plainKeys := false, apart := false, laid := [("spool/level.first", laid_spool_level_first)], narrowed := true }
def SpecChecksUptoSaid : Prop := specChecksUptoRow.holds Tryd.pinned (OpenSpec.upto specChecksSpec)

/-- 'spoollaw23.SeekRest', WHERE WHAT IT READS IS OF BULK AT MOST 1048576: true; the input reads as it did. -/
def seekRestUptoRow : OpenClaim := { program := "ytbpdocdomjafbaadoor", sum := "7bded17bababc2dcae959087db222a3f44d721f5874eede3db632575da5754d2", func := "spool/spoollaw23.SeekRest", spec := "seekRest", unfollowed := true, recurses := true, named := ["spool/level.first"], plainKeys := false, apart := false, laid := [("spool/level.first", laid_spool_level_first)], narrowed := true }
def SeekRestUptoSaid : Prop := seekRestUptoRow.holds Tryd.pinned (OpenSpec.upto seekRestSpec)

/-- 'spoollaw23.SeekEnds', WHERE WHAT IT READS IS OF BULK AT MOST 1048576: true; the input reads as it did. -/
def seekEndsUptoRow : OpenClaim := { program := "ytbpdocdomjafbaadoor", sum := "7bded17bababc2dcae959087db222a3f44d721f5874eede3db632575da5754d2", func := "spool/spoollaw23.SeekEnds", spec := "seekEnds", unfollowed := true, recurses := true, named := ["spool/level.first"], plainKeys := false, apart := false, laid := [("spool/level.first", laid_spool_level_first)], narrowed := true }
def SeekEndsUptoSaid : Prop := seekEndsUptoRow.holds Tryd.pinned (OpenSpec.upto seekEndsSpec)

/-- 'spoollaw21.SpecTruths', WHERE WHAT IT READS IS OF BULK AT MOST 1048576: true; the input reads as it did. -/
def specTruthsUptoRow : OpenClaim := { program := "ytbpdocdomjafbaadoor", sum := "7bded17bababc2dcae959087db222a3f44d721f5874eede3db632575da5754d2", func := "spool/spoollaw21.SpecTruths", spec := "specTruths", inPlace := ["internal/abi.NoEscape"], unfollowed := true, recurses := true, named := ["spool/level.first"], plainKeys := false, apart := false, laid := [("spool/level.first", laid_spool_level_first)], narrowed := true }
def SpecTruthsUptoSaid : Prop := specTruthsUptoRow.holds Tryd.pinned (OpenSpec.upto specTruthsSpec)

end Rows
end Go.Proofs.YtbpdocdomjafbaaDoor
