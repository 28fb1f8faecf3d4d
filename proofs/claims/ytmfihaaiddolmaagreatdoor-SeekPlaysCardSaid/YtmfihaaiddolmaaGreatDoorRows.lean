/-
  NARROWER THAN 'FOR EVERY INPUT', by the rows' own cells (each row's printed sentence says how): DecPlays: laid · SpecPlays: laid · SeekPlays: laid.
  DERIVED. THE GIVEN ROWS OF THIS SEAT. 3 by the template 'for every input the law returns true; each argument reads behind the call as it read before'; 0 by the template 'total and deterministic' (their statements: YtmfihaaiddolmaaGreatDoorTotals.lean).
  GIVEN WITH THE SEED: the statements are not yours to turn. If you find one false, say at which input.
  Laid BY PROGRAM, IN A SANDBOX (cutbox-rows.mjs): the forced cells as the released guide's own fill.sh prints them over the translation b1b49b7e4698a5f6… (all of the seat's roots in one cut). By AI agents, Wed Nov 11 2026. No macro, syntax, notation, axiom, sorry.
-/
import Derived.Test.YtmfihaaiddolmaaGreatDoorChecked
import GoSem.Claim
import GoSem.ClaimJoined
import GoSem.ClaimMapViews
import Derived.JoinedTies
import Derived.KernelRfl
namespace Go.Proofs.YtmfihaaiddolmaaGreatDoor
/- THE CELL 'sum', in the pinned program and in every row, IS THE sha256 OF THE DUMP (.gsa) THAT YtmfihaaiddolmaaGreatDoorProg.lean LOADS. Nothing in Lean hashes anything: it is a label: what it is worth is what the hold of that sum in a sandbox is worth. -/
noncomputable def Tryz.pinned : Pinned := { name := "ytmfihaaiddolmaagreatdoor", sum := "b1b49b7e4698a5f60d1735d3df42d9cd96187ac53fa9b62c901cba1f80b04263", checked := Tryz.checked }
namespace Rows
def none {H : Type} : Left H := { results := [], args := [] }

/- WHAT THE LISTED PACKAGE-LEVEL VARIABLES READ AS WHEN THE CALL BEGINS. Each datum BY PROGRAM (the guide's laid-datum.mjs) off the statement by which the dump's own 'gosem.cut.vars' lays the variable. In a bare row this is a premise. The card (YtmfihaaiddolmaaGreatDoorCards.lean) ties it to the program's text. -/
def laid_spool_level_first {H : Type} : DataW H := .agg [.lit (.int .i64 0), .lit (.int .i64 2), .lit (.int .i64 4), .lit (.int .i64 8), .lit (.int .i64 16)]

/-- 'spoollaw13.DecPlays': WHATEVER THE INPUT: true; the input reads as it did. -/
def decPlaysSpec : ChangeSpec := { name := "decPlays", fn := fun _ => fun
  | [d1, d2] => { results := [.lit (.bool true)], args := [d1, d2] }
  | _ => none }
def decPlaysRow : OpenClaim := { program := "ytmfihaaiddolmaagreatdoor", sum := "b1b49b7e4698a5f60d1735d3df42d9cd96187ac53fa9b62c901cba1f80b04263", func := "spool/spoollaw13.DecPlays", spec := "decPlays", unfollowed := true, recurses := true, named := ["spool/level.first"], plainKeys := false, apart := false, laid := [("spool/level.first", laid_spool_level_first)] }
def DecPlaysSaid : Prop := decPlaysRow.holds Tryz.pinned (OpenSpec.ofChange decPlaysSpec)

/-- ITS FALSE NEIGHBOUR: 'it returns false'. Refute it at one input. -/
def decPlaysWrong : ChangeSpec := { name := "decPlays", fn := fun _ => fun
  | [d1, d2] => { results := [.lit (.bool false)], args := [d1, d2] }
  | _ => none }
def DecPlaysWrongFalsely : Prop := decPlaysRow.holds Tryz.pinned (OpenSpec.ofChange decPlaysWrong)

/-- 'spoollaw21.SpecPlays': WHATEVER THE INPUT: true; the input reads as it did. -/
def specPlaysSpec : ChangeSpec := { name := "specPlays", fn := fun _ => fun
  | [d1, d2] => { results := [.lit (.bool true)], args := [d1, d2] }
  | _ => none }
def specPlaysRow : OpenClaim := { program := "ytmfihaaiddolmaagreatdoor", sum := "b1b49b7e4698a5f60d1735d3df42d9cd96187ac53fa9b62c901cba1f80b04263", func := "spool/spoollaw21.SpecPlays", spec := "specPlays", unfollowed := true, recurses := true, named := ["spool/level.first"], plainKeys := false, apart := false, laid := [("spool/level.first", laid_spool_level_first)] }
def SpecPlaysSaid : Prop := specPlaysRow.holds Tryz.pinned (OpenSpec.ofChange specPlaysSpec)

/-- ITS FALSE NEIGHBOUR: 'it returns false'. Refute it at one input. -/
def specPlaysWrong : ChangeSpec := { name := "specPlays", fn := fun _ => fun
  | [d1, d2] => { results := [.lit (.bool false)], args := [d1, d2] }
  | _ => none }
def SpecPlaysWrongFalsely : Prop := specPlaysRow.holds Tryz.pinned (OpenSpec.ofChange specPlaysWrong)

/-- 'spoollaw23.SeekPlays': WHATEVER THE INPUT: true; the input reads as it did. -/
def seekPlaysSpec : ChangeSpec := { name := "seekPlays", fn := fun _ => fun
  | [d1, d2, d3] => { results := [.lit (.bool true)], args := [d1, d2, d3] }
  | _ => none }
def seekPlaysRow : OpenClaim := { program := "ytmfihaaiddolmaagreatdoor", sum := "b1b49b7e4698a5f60d1735d3df42d9cd96187ac53fa9b62c901cba1f80b04263", func := "spool/spoollaw23.SeekPlays", spec := "seekPlays", unfollowed := true, recurses := true, named := ["spool/level.first"], plainKeys := false, apart := false, laid := [("spool/level.first", laid_spool_level_first)] }
def SeekPlaysSaid : Prop := seekPlaysRow.holds Tryz.pinned (OpenSpec.ofChange seekPlaysSpec)

/-- ITS FALSE NEIGHBOUR: 'it returns false'. Refute it at one input. -/
def seekPlaysWrong : ChangeSpec := { name := "seekPlays", fn := fun _ => fun
  | [d1, d2, d3] => { results := [.lit (.bool false)], args := [d1, d2, d3] }
  | _ => none }
def SeekPlaysWrongFalsely : Prop := seekPlaysRow.holds Tryz.pinned (OpenSpec.ofChange seekPlaysWrong)

/- THE SECOND FORM. 'bulk': how many values and letters a reading holds, each counted each time it is reached (what is shared counts as often as it is met; a slice's spare places count too). A statement '..UptoSaid' is the law's where the arguments, and the package variables that the reading takes, are together of bulk at most 1048576: NARROWER than '..Said'. Prove '..Said' where nothing that the law and all that it calls make is longer than what came in: it says more and counts as full. Else prove '..UptoSaid'. A law counts once. -/
mutual
def uptoBulk {H : Type} : DataW H → Nat
  | .lit (.string bytes) => bytes.length + 1
  | .lit _ => 1
  | .nil => 1
  | .ptr d => uptoBulk d + 1
  | .slice elems spare => uptoBulkAll elems + uptoBulkAll spare + 1
  | .agg parts => uptoBulkAll parts + 1
  | .iface _ d => uptoBulk d + 1
  | .map entries => uptoBulkEntries entries + 1
  | .held _ => 1
def uptoBulkAll {H : Type} : List (DataW H) → Nat
  | [] => 0
  | d :: r => uptoBulk d + uptoBulkAll r
def uptoBulkEntries {H : Type} : List (Lit × DataW H) → Nat
  | [] => 0
  | x :: r => uptoBulkEntry x + uptoBulkEntries r
def uptoBulkEntry {H : Type} : Lit × DataW H → Nat
  | (.string bytes, d) => bytes.length + uptoBulk d + 1
  | (_, d) => uptoBulk d + 1
 end
def uptoSmall : (H : Type) → List (DataW H) → Bool := fun _ ds => decide (uptoBulkAll ds ≤ 1048576)
def OpenSpec.upto (s : _root_.Go.ChangeSpec) : _root_.Go.OpenSpec := { _root_.Go.OpenSpec.ofChange s with cond := some uptoSmall }

/-- 'spoollaw13.DecPlays', WHERE WHAT IT READS IS OF BULK AT MOST 1048576: true; the input reads as it did. -/
def decPlaysUptoRow : OpenClaim := { program := "ytmfihaaiddolmaagreatdoor", sum := "b1b49b7e4698a5f60d1735d3df42d9cd96187ac53fa9b62c901cba1f80b04263", func := "spool/spoollaw13.DecPlays", spec := "decPlays", unfollowed := true, recurses := true, named := ["spool/level.first"], plainKeys := false, apart := false, laid := [("spool/level.first", laid_spool_level_first)], narrowed := true }
def DecPlaysUptoSaid : Prop := decPlaysUptoRow.holds Tryz.pinned (OpenSpec.upto decPlaysSpec)

/-- 'spoollaw21.SpecPlays', WHERE WHAT IT READS IS OF BULK AT MOST 1048576: true; the input reads as it did. -/
def specPlaysUptoRow : OpenClaim := { program := "ytmfihaaiddolmaagreatdoor", sum := "b1b49b7e4698a5f60d1735d3df42d9cd96187ac53fa9b62c901cba1f80b04263", func := "spool/spoollaw21.SpecPlays", spec := "specPlays", unfollowed := true, recurses := true, named := ["spool/level.first"], plainKeys := false, apart := false, laid := [("spool/level.first", laid_spool_level_first)], narrowed := true }
def SpecPlaysUptoSaid : Prop := specPlaysUptoRow.holds Tryz.pinned (OpenSpec.upto specPlaysSpec)

/-- 'spoollaw23.SeekPlays', WHERE WHAT IT READS IS OF BULK AT MOST 1048576: true; the input reads as it did. -/
def seekPlaysUptoRow : OpenClaim := { program := "ytmfihaaiddolmaagreatdoor", sum := "b1b49b7e4698a5f60d1735d3df42d9cd96187ac53fa9b62c901cba1f80b04263", func := "spool/spoollaw23.SeekPlays", spec := "seekPlays", unfollowed := true, recurses := true, named := ["spool/level.first"], plainKeys := false, apart := false, laid := [("spool/level.first", laid_spool_level_first)], narrowed := true }
def SeekPlaysUptoSaid : Prop := seekPlaysUptoRow.holds Tryz.pinned (OpenSpec.upto seekPlaysSpec)

end Rows
end Go.Proofs.YtmfihaaiddolmaaGreatDoor
