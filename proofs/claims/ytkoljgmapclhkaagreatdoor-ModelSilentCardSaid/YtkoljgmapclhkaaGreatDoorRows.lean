/-
  NARROWER THAN 'FOR EVERY INPUT', by the rows' own cells (each row's printed sentence says how): EncSilence: laid · ModelFills: laid · ModelRefuses: laid · ModelAsks: laid · ModelSilent: laid · ModelPlays: laid.
  DERIVED. THE GIVEN ROWS OF THIS SEAT. 6 by the template 'for every input the law returns true; each argument reads behind the call as it read before'; 0 by the template 'total and deterministic' (their statements: YtkoljgmapclhkaaGreatDoorTotals.lean).
  GIVEN WITH THE SEED: the statements are not yours to turn. If you find one false, say at which input.
  Laid BY PROGRAM, IN A SANDBOX (cutbox-rows.mjs): the forced cells as the released guide's own fill.sh prints them over the translation a4876e0775ac8c88… (all of the seat's roots in one cut). By AI agents, Wed Nov 11 2026. No macro, syntax, notation, axiom, sorry.
-/
import Derived.Test.YtkoljgmapclhkaaGreatDoorChecked
import GoSem.PinnedTables
import GoSem.Claim
import GoSem.ClaimJoined
import GoSem.ClaimMapViews
import Derived.JoinedTies
import Derived.KernelRfl
namespace Go.Proofs.YtkoljgmapclhkaaGreatDoor
/- THE CELL 'sum', in the pinned program and in every row, IS THE sha256 OF THE DUMP (.gsa) THAT YtkoljgmapclhkaaGreatDoorProg.lean LOADS. Nothing in Lean hashes anything: it is a label: what it is worth is what the hold of that sum in a sandbox is worth. -/
noncomputable def Tryz.pinned : Pinned := { name := "ytkoljgmapclhkaagreatdoor", sum := "a4876e0775ac8c884d51abddca504891df26facf4515a9f01bb1aef801a602a3", checked := Tryz.checked }
namespace Rows
def none {H : Type} : Left H := { results := [], args := [] }

/- WHAT THE LISTED PACKAGE-LEVEL VARIABLES READ AS WHEN THE CALL BEGINS. Each datum BY PROGRAM (the guide's laid-datum.mjs) off the statement by which the dump's own 'gosem.cut.vars' lays the variable. In a bare row this is a premise. The card (YtkoljgmapclhkaaGreatDoorCards.lean) ties it to the program's text. -/
def laid_unicode_utf8_acceptRanges {H : Type} : DataW H := .agg [.agg [.lit (.int .u8 128), .lit (.int .u8 191)], .agg [.lit (.int .u8 160), .lit (.int .u8 191)], .agg [.lit (.int .u8 128), .lit (.int .u8 159)], .agg [.lit (.int .u8 144), .lit (.int .u8 191)], .agg [.lit (.int .u8 128), .lit (.int .u8 143)], .agg [.lit (.int .u8 0), .lit (.int .u8 0)], .agg [.lit (.int .u8 0), .lit (.int .u8 0)], .agg [.lit (.int .u8 0), .lit (.int .u8 0)], .agg [.lit (.int .u8 0), .lit (.int .u8 0)], .agg [.lit (.int .u8 0), .lit (.int .u8 0)], .agg [.lit (.int .u8 0), .lit (.int .u8 0)], .agg [.lit (.int .u8 0), .lit (.int .u8 0)], .agg [.lit (.int .u8 0), .lit (.int .u8 0)], .agg [.lit (.int .u8 0), .lit (.int .u8 0)], .agg [.lit (.int .u8 0), .lit (.int .u8 0)], .agg [.lit (.int .u8 0), .lit (.int .u8 0)]]
def laid_spool_level_first {H : Type} : DataW H := .agg [.lit (.int .i64 0), .lit (.int .i64 2), .lit (.int .i64 4), .lit (.int .i64 8), .lit (.int .i64 16)]
/-- One of Go's own tables, pinned by name: the form's constant. -/
def laid_unicode_utf8_first : DataW Unit := Go.Pinned.utf8First

/-- 'spoollaw15.EncSilence': WHATEVER THE INPUT: true; the input reads as it did. -/
def encSilenceSpec : ChangeSpec := { name := "encSilence", fn := fun _ => fun
  | [d1, d2, d3] => { results := [.lit (.bool true)], args := [d1, d2, d3] }
  | _ => none }
def encSilenceRow : OpenClaim := { program := "ytkoljgmapclhkaagreatdoor", sum := "a4876e0775ac8c884d51abddca504891df26facf4515a9f01bb1aef801a602a3", func := "spool/spoollaw15.EncSilence", spec := "encSilence", inPlace := ["internal/bytealg.IndexByteString", "internal/bytealg.IndexString", "internal/abi.NoEscape", "internal/bytealg.MakeNoZero"], unfollowed := true, recurses := true, named := ["spool/level.first", "unicode/utf8.first", "unicode/utf8.acceptRanges", "internal/bytealg.MaxLen"], plainKeys := false, apart := false, laid := [("unicode/utf8.acceptRanges", laid_unicode_utf8_acceptRanges), ("spool/level.first", laid_spool_level_first), ("unicode/utf8.first", laid_unicode_utf8_first)] }
def EncSilenceSaid : Prop := encSilenceRow.holds Tryz.pinned (OpenSpec.ofChange encSilenceSpec)

/-- ITS FALSE NEIGHBOUR: 'it returns false'. Refute it at one input. -/
def encSilenceWrong : ChangeSpec := { name := "encSilence", fn := fun _ => fun
  | [d1, d2, d3] => { results := [.lit (.bool false)], args := [d1, d2, d3] }
  | _ => none }
def EncSilenceWrongFalsely : Prop := encSilenceRow.holds Tryz.pinned (OpenSpec.ofChange encSilenceWrong)

/-- 'spoollaw25.ModelFills': WHATEVER THE INPUT: true; the input reads as it did. -/
def modelFillsSpec : ChangeSpec := { name := "modelFills", fn := fun _ => fun
  | [d1, d2] => { results := [.lit (.bool true)], args := [d1, d2] }
  | _ => none }
def modelFillsRow : OpenClaim := { program := "ytkoljgmapclhkaagreatdoor", sum := "a4876e0775ac8c884d51abddca504891df26facf4515a9f01bb1aef801a602a3", func := "spool/spoollaw25.ModelFills", spec := "modelFills", inPlace := ["internal/bytealg.IndexByteString", "internal/bytealg.IndexString", "internal/abi.NoEscape", "internal/bytealg.MakeNoZero"], unfollowed := true, recurses := true, named := ["spool/level.first", "unicode/utf8.first", "unicode/utf8.acceptRanges", "internal/bytealg.MaxLen"], plainKeys := false, apart := false, laid := [("unicode/utf8.acceptRanges", laid_unicode_utf8_acceptRanges), ("spool/level.first", laid_spool_level_first), ("unicode/utf8.first", laid_unicode_utf8_first)] }
def ModelFillsSaid : Prop := modelFillsRow.holds Tryz.pinned (OpenSpec.ofChange modelFillsSpec)

/-- ITS FALSE NEIGHBOUR: 'it returns false'. Refute it at one input. -/
def modelFillsWrong : ChangeSpec := { name := "modelFills", fn := fun _ => fun
  | [d1, d2] => { results := [.lit (.bool false)], args := [d1, d2] }
  | _ => none }
def ModelFillsWrongFalsely : Prop := modelFillsRow.holds Tryz.pinned (OpenSpec.ofChange modelFillsWrong)

/-- 'spoollaw25.ModelRefuses': WHATEVER THE INPUT: true; the input reads as it did. -/
def modelRefusesSpec : ChangeSpec := { name := "modelRefuses", fn := fun _ => fun
  | [d1, d2, d3, d4, d5] => { results := [.lit (.bool true)], args := [d1, d2, d3, d4, d5] }
  | _ => none }
def modelRefusesRow : OpenClaim := { program := "ytkoljgmapclhkaagreatdoor", sum := "a4876e0775ac8c884d51abddca504891df26facf4515a9f01bb1aef801a602a3", func := "spool/spoollaw25.ModelRefuses", spec := "modelRefuses", inPlace := ["internal/bytealg.IndexByteString", "internal/bytealg.IndexString", "internal/abi.NoEscape", "internal/bytealg.MakeNoZero"], unfollowed := true, recurses := true, named := ["spool/level.first", "unicode/utf8.first", "unicode/utf8.acceptRanges", "internal/bytealg.MaxLen"], plainKeys := false, apart := false, laid := [("unicode/utf8.acceptRanges", laid_unicode_utf8_acceptRanges), ("spool/level.first", laid_spool_level_first), ("unicode/utf8.first", laid_unicode_utf8_first)] }
def ModelRefusesSaid : Prop := modelRefusesRow.holds Tryz.pinned (OpenSpec.ofChange modelRefusesSpec)

/-- ITS FALSE NEIGHBOUR: 'it returns false'. Refute it at one input. -/
def modelRefusesWrong : ChangeSpec := { name := "modelRefuses", fn := fun _ => fun
  | [d1, d2, d3, d4, d5] => { results := [.lit (.bool false)], args := [d1, d2, d3, d4, d5] }
  | _ => none }
def ModelRefusesWrongFalsely : Prop := modelRefusesRow.holds Tryz.pinned (OpenSpec.ofChange modelRefusesWrong)

/-- 'spoollaw25.ModelAsks': WHATEVER THE INPUT: true; the input reads as it did. -/
def modelAsksSpec : ChangeSpec := { name := "modelAsks", fn := fun _ => fun
  | [d1, d2, d3, d4, d5] => { results := [.lit (.bool true)], args := [d1, d2, d3, d4, d5] }
  | _ => none }
def modelAsksRow : OpenClaim := { program := "ytkoljgmapclhkaagreatdoor", sum := "a4876e0775ac8c884d51abddca504891df26facf4515a9f01bb1aef801a602a3", func := "spool/spoollaw25.ModelAsks", spec := "modelAsks", inPlace := ["internal/bytealg.IndexByteString", "internal/bytealg.IndexString", "internal/abi.NoEscape", "internal/bytealg.MakeNoZero"], unfollowed := true, recurses := true, named := ["spool/level.first", "unicode/utf8.first", "unicode/utf8.acceptRanges", "internal/bytealg.MaxLen"], plainKeys := false, apart := false, laid := [("unicode/utf8.acceptRanges", laid_unicode_utf8_acceptRanges), ("spool/level.first", laid_spool_level_first), ("unicode/utf8.first", laid_unicode_utf8_first)] }
def ModelAsksSaid : Prop := modelAsksRow.holds Tryz.pinned (OpenSpec.ofChange modelAsksSpec)

/-- ITS FALSE NEIGHBOUR: 'it returns false'. Refute it at one input. -/
def modelAsksWrong : ChangeSpec := { name := "modelAsks", fn := fun _ => fun
  | [d1, d2, d3, d4, d5] => { results := [.lit (.bool false)], args := [d1, d2, d3, d4, d5] }
  | _ => none }
def ModelAsksWrongFalsely : Prop := modelAsksRow.holds Tryz.pinned (OpenSpec.ofChange modelAsksWrong)

/-- 'spoollaw25.ModelSilent': WHATEVER THE INPUT: true; the input reads as it did. -/
def modelSilentSpec : ChangeSpec := { name := "modelSilent", fn := fun _ => fun
  | [d1, d2, d3, d4] => { results := [.lit (.bool true)], args := [d1, d2, d3, d4] }
  | _ => none }
def modelSilentRow : OpenClaim := { program := "ytkoljgmapclhkaagreatdoor", sum := "a4876e0775ac8c884d51abddca504891df26facf4515a9f01bb1aef801a602a3", func := "spool/spoollaw25.ModelSilent", spec := "modelSilent", inPlace := ["internal/bytealg.IndexByteString", "internal/bytealg.IndexString", "internal/abi.NoEscape", "internal/bytealg.MakeNoZero"], unfollowed := true, recurses := true, named := ["spool/level.first", "unicode/utf8.first", "unicode/utf8.acceptRanges", "internal/bytealg.MaxLen"], plainKeys := false, apart := false, laid := [("unicode/utf8.acceptRanges", laid_unicode_utf8_acceptRanges), ("spool/level.first", laid_spool_level_first), ("unicode/utf8.first", laid_unicode_utf8_first)] }
def ModelSilentSaid : Prop := modelSilentRow.holds Tryz.pinned (OpenSpec.ofChange modelSilentSpec)

/-- ITS FALSE NEIGHBOUR: 'it returns false'. Refute it at one input. -/
def modelSilentWrong : ChangeSpec := { name := "modelSilent", fn := fun _ => fun
  | [d1, d2, d3, d4] => { results := [.lit (.bool false)], args := [d1, d2, d3, d4] }
  | _ => none }
def ModelSilentWrongFalsely : Prop := modelSilentRow.holds Tryz.pinned (OpenSpec.ofChange modelSilentWrong)

/-- 'spoollaw25.ModelPlays': WHATEVER THE INPUT: true; the input reads as it did. -/
def modelPlaysSpec : ChangeSpec := { name := "modelPlays", fn := fun _ => fun
  | [d1, d2, d3, d4, d5, d6] => { results := [.lit (.bool true)], args := [d1, d2, d3, d4, d5, d6] }
  | _ => none }
def modelPlaysRow : OpenClaim := { program := "ytkoljgmapclhkaagreatdoor", sum := "a4876e0775ac8c884d51abddca504891df26facf4515a9f01bb1aef801a602a3", func := "spool/spoollaw25.ModelPlays", spec := "modelPlays", inPlace := ["internal/bytealg.IndexByteString", "internal/bytealg.IndexString", "internal/abi.NoEscape", "internal/bytealg.MakeNoZero"], unfollowed := true, recurses := true, named := ["spool/level.first", "unicode/utf8.first", "unicode/utf8.acceptRanges", "internal/bytealg.MaxLen"], plainKeys := false, apart := false, laid := [("unicode/utf8.acceptRanges", laid_unicode_utf8_acceptRanges), ("spool/level.first", laid_spool_level_first), ("unicode/utf8.first", laid_unicode_utf8_first)] }
def ModelPlaysSaid : Prop := modelPlaysRow.holds Tryz.pinned (OpenSpec.ofChange modelPlaysSpec)

/-- ITS FALSE NEIGHBOUR: 'it returns false'. Refute it at one input. -/
def modelPlaysWrong : ChangeSpec := { name := "modelPlays", fn := fun _ => fun
  | [d1, d2, d3, d4, d5, d6] => { results := [.lit (.bool false)], args := [d1, d2, d3, d4, d5, d6] }
  | _ => none }
def ModelPlaysWrongFalsely : Prop := modelPlaysRow.holds Tryz.pinned (OpenSpec.ofChange modelPlaysWrong)

/- THE SECOND FORM. 'bulk': how many values and letters a reading holds, each counted each time it is reached (what is shared counts as often as it is met; a slice's spare places count too). A statement '..UptoSaid' is the law's where the arguments, and the package variables that the reading takes, are together of bulk at most 1048576: NARROWER than '..Said'. Prove '..Said' where nothing that the law and all that it calls make is longer than what came in: it says more and counts as full. Else prove '..UptoSaid'. A law counts once. -/
mutual
def uptoBulk {H : Type} : DataW H → Nat
  | .lit (.string bytes) => bytes.length + 1
  | .lit _ => 1
  | .nil => 1
  | .ptr d => uptoBulk d + 1
  | .slice elems spare => uptoBulkAll elems + uptoBulkAll spare + 1
  | .agg parts => uptoBulkAll parts + 1
  | .iface _ d => uptoBulk d + 1
  | .map entries => uptoBulkEntries entries + 1
  | .held _ => 1
def uptoBulkAll {H : Type} : List (DataW H) → Nat
  | [] => 0
  | d :: r => uptoBulk d + uptoBulkAll r
def uptoBulkEntries {H : Type} : List (Lit × DataW H) → Nat
  | [] => 0
  | x :: r => uptoBulkEntry x + uptoBulkEntries r
def uptoBulkEntry {H : Type} : Lit × DataW H → Nat
  | (.string bytes, d) => bytes.length + uptoBulk d + 1
  | (_, d) => uptoBulk d + 1
 end
def uptoSmall : (H : Type) → List (DataW H) → Bool := fun _ ds => decide (uptoBulkAll ds ≤ 1048576)
def OpenSpec.upto (s : _root_.Go.ChangeSpec) : _root_.Go.OpenSpec := { _root_.Go.OpenSpec.ofChange s with cond := some uptoSmall }

/-- 'spoollaw15.EncSilence', WHERE WHAT IT READS IS OF BULK AT MOST 1048576: true; the input reads as it did. -/
def encSilenceUptoRow : OpenClaim := { program := "ytkoljgmapclhkaagreatdoor", sum := "a4876e0775ac8c884d51abddca504891df26facf4515a9f01bb1aef801a602a3", func := "spool/spoollaw15.EncSilence", spec := "encSilence", inPlace := ["internal/bytealg.IndexByteString", "internal/bytealg.IndexString", "internal/abi.NoEscape", "internal/bytealg.MakeNoZero"], unfollowed := true, recurses := true, named := ["spool/level.first", "unicode/utf8.first", "unicode/utf8.acceptRanges", "internal/bytealg.MaxLen"], plainKeys := false, apart := false, laid := [("unicode/utf8.acceptRanges", laid_unicode_utf8_acceptRanges), ("spool/level.first", laid_spool_level_first), ("unicode/utf8.first", laid_unicode_utf8_first)], narrowed := true }
def EncSilenceUptoSaid : Prop := encSilenceUptoRow.holds Tryz.pinned (OpenSpec.upto encSilenceSpec)

/-- 'spoollaw25.ModelFills', WHERE WHAT IT READS IS OF BULK AT MOST 1048576: true; the input reads as it did. -/
def modelFillsUptoRow : OpenClaim := { program := "ytkoljgmapclhkaagreatdoor", sum := "a4876e0775ac8c884d51abddca504891df26facf4515a9f01bb1aef801a602a3", func := "spool/spoollaw25.ModelFills", spec := "modelFills", inPlace := ["internal/bytealg.IndexByteString", "internal/bytealg.IndexString", "internal/abi.NoEscape", "internal/bytealg.MakeNoZero"], unfollowed := true, recurses := true, named := ["spool/level.first", "unicode/utf8.first", "unicode/utf8.acceptRanges", "internal/bytealg.MaxLen"], plainKeys := false, apart := false, laid := [("unicode/utf8.acceptRanges", laid_unicode_utf8_acceptRanges), ("spool/level.first", laid_spool_level_first), ("unicode/utf8.first", laid_unicode_utf8_first)], narrowed := true }
def ModelFillsUptoSaid : Prop := modelFillsUptoRow.holds Tryz.pinned (OpenSpec.upto modelFillsSpec)

/-- 'spoollaw25.ModelRefuses', WHERE WHAT IT READS IS OF BULK AT MOST 1048576: true; the input reads as it did. -/
def modelRefusesUptoRow : OpenClaim := { program := "ytkoljgmapclhkaagreatdoor", sum := "a4876e0775ac8c884d51abddca504891df26facf4515a9f01bb1aef801a602a3", func := "spool/spoollaw25.ModelRefuses", spec := "modelRefuses", inPlace := ["internal/bytealg.IndexByteString", "internal/bytealg.IndexString", "internal/abi.NoEscape", "internal/bytealg.MakeNoZero"], unfollowed := true, recurses := true, named := ["spool/level.first", "unicode/utf8.first", "unicode/utf8.acceptRanges", "internal/bytealg.MaxLen"], plainKeys := false, apart := false, laid := [("unicode/utf8.acceptRanges", laid_unicode_utf8_acceptRanges), ("spool/level.first", laid_spool_level_first), ("unicode/utf8.first", laid_unicode_utf8_first)], narrowed := true }
def ModelRefusesUptoSaid : Prop := modelRefusesUptoRow.holds Tryz.pinned (OpenSpec.upto modelRefusesSpec)

/-- 'spoollaw25.ModelAsks', WHERE WHAT IT READS IS OF BULK AT MOST 1048576: true; the input reads as it did. -/
def modelAsksUptoRow : OpenClaim := { program := "ytkoljgmapclhkaagreatdoor", sum := "a4876e0775ac8c884d51abddca504891df26facf4515a9f01bb1aef801a602a3", func := "spool/spoollaw25.ModelAsks", spec := "modelAsks", inPlace := ["internal/bytealg.IndexByteString", "internal/bytealg.IndexString", "internal/abi.NoEscape", "internal/bytealg.MakeNoZero"], unfollowed := true, recurses := true, named := ["spool/level.first", "unicode/utf8.first", "unicode/utf8.acceptRanges", "internal/bytealg.MaxLen"], plainKeys := false, apart := false, laid := [("unicode/utf8.acceptRanges", laid_unicode_utf8_acceptRanges), ("spool/level.first", laid_spool_level_first), ("unicode/utf8.first", laid_unicode_utf8_first)], narrowed := true }
def ModelAsksUptoSaid : Prop := modelAsksUptoRow.holds Tryz.pinned (OpenSpec.upto modelAsksSpec)

/-- 'spoollaw25.ModelSilent', WHERE WHAT IT READS IS OF BULK AT MOST 1048576: true; the input reads as it did. -/
def modelSilentUptoRow : OpenClaim := { program := "ytkoljgmapclhkaagreatdoor", sum := "a4876e0775ac8c884d51abddca504891df26facf4515a9f01bb1aef801a602a3", func := "spool/spoollaw25.ModelSilent", spec := "modelSilent", inPlace := ["internal/bytealg.IndexByteString", "internal/bytealg.IndexString", "internal/abi.NoEscape", "internal/bytealg.MakeNoZero"], unfollowed := true, recurses := true, named := ["spool/level.first", "unicode/utf8.first", "unicode/utf8.acceptRanges", "internal/bytealg.MaxLen"], plainKeys := false, apart := false, laid := [("unicode/utf8.acceptRanges", laid_unicode_utf8_acceptRanges), ("spool/level.first", laid_spool_level_first), ("unicode/utf8.first", laid_unicode_utf8_first)], narrowed := true }
def ModelSilentUptoSaid : Prop := modelSilentUptoRow.holds Tryz.pinned (OpenSpec.upto modelSilentSpec)

/-- 'spoollaw25.ModelPlays', WHERE WHAT IT READS IS OF BULK AT MOST 1048576: true; the input reads as it did. -/
def modelPlaysUptoRow : OpenClaim := { program := "ytkoljgmapclhkaagreatdoor", sum := "a4876e0775ac8c884d51abddca504891df26facf4515a9f01bb1aef801a602a3", func := "spool/spoollaw25.ModelPlays", spec := "modelPlays", inPlace := ["internal/bytealg.IndexByteString", "internal/bytealg.IndexString", "internal/abi.NoEscape", "internal/bytealg.MakeNoZero"], unfollowed := true, recurses := true, named := ["spool/level.first", "unicode/utf8.first", "unicode/utf8.acceptRanges", "internal/bytealg.MaxLen"], plainKeys := false, apart := false, laid := [("unicode/utf8.acceptRanges", laid_unicode_utf8_acceptRanges), ("spool/level.first", laid_spool_level_first), ("unicode/utf8.first", laid_unicode_utf8_first)], narrowed := true }
def ModelPlaysUptoSaid : Prop := modelPlaysUptoRow.holds Tryz.pinned (OpenSpec.upto modelPlaysSpec)

end Rows
end Go.Proofs.YtkoljgmapclhkaaGreatDoor
