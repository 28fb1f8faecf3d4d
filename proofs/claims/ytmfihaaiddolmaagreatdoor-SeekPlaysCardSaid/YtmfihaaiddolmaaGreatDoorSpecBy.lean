/- The bytes of numbers, plainly. -/
import Derived.Test.YtmfihaaiddolmaaGreatDoorSpec7
import Derived.Laws.BytesArg
set_option linter.unusedSimpArgs false
set_option linter.unusedVariables false
namespace Go.Proofs.YtmfihaaiddolmaaGreatDoor

def fourN (x : Int) : List Int := [x % 256, x / 256 % 256, x / 65536 % 256, x / 16777216]
/-- The four bytes of a number. -/
def bl4 (x : Int) : List UInt8 := (strOfNums (fourN (x % 4294967296))).data.toList
theorem bl4_len (x : Int) : (bl4 x).length = 4 := by
  unfold bl4
  have := strOfNums_size (fourN (x % 4294967296))
  rw [Array.length_toList]
  exact this
end Go.Proofs.YtmfihaaiddolmaaGreatDoor
