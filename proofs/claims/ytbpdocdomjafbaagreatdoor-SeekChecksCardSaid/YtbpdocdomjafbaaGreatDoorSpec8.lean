/- The walks of crc.Four, state.Bytes and entry.Check. -/
import Derived.Test.YtbpdocdomjafbaaGreatDoorSpec7
import Derived.Laws.BytesArg
set_option linter.unusedSimpArgs false
set_option linter.unusedVariables false
namespace Go.Proofs.YtbpdocdomjafbaaGreatDoor
open Go.RowKit

def fourN (x : Int) : List Int := [x % 256, x / 256 % 256, x / 65536 % 256, x / 16777216]
set_option maxRecDepth 100000 in
set_option maxHeartbeats 1000000 in
theorem CFour_any (x : Int) (h0 : 0 ≤ x) (h1 : x ≤ 4294967295) (w : World) : Calls Tryz.prog 27 #[.int .u32 x] w fun r w' => r = .returned (.string (strOfNums (fourN x))) ∧ Below w.heap.size w w' := by
  obtain ⟨B, hB⟩ : ∃ B, w.heap.size = B := ⟨_, rfl⟩
  have hfar := Below.refl B w
  have hsz : B ≤ w.heap.size := by omega
  have hcv : (convert 23 9 (.slice (some ⟨B, 0, none⟩) 4 4)).run Tryz.prog (w.alloc (.cells #[.int .u8 (x % 256), .int .u8 (x / 256 % 256), .int .u8 (x / 65536 % 256), .int .u8 (x / 16777216)] 5)) = .ok (.string (strOfNums (fourN x))) (w.alloc (.cells #[.int .u8 (x % 256), .int .u8 (x / 256 % 256), .int .u8 (x / 65536 % 256), .int .u8 (x / 16777216)] 5)) := by
    have hb : Blk (w.alloc (.cells #[.int .u8 (x % 256), .int .u8 (x / 256 % 256), .int .u8 (x / 65536 % 256), .int .u8 (x / 16777216)] 5)) B _ 5 := Blk.newAt hB.symm
    refine run_convert_bytes_arg _ 23 5 Tryz.underlying23 Tryz.underlying5 B 0 4 4 (fourN x) rfl (fun i hi => ?_) 9 Tryz.underlying9
    rw [Nat.zero_add, hb.cell i]
    match i, hi with
    | 0, _ | 1, _ | 2, _ | 3, _ => rfl
  go_enter Tryz.func27, Tryz.ntmps27
  go_wp2
  go_ret
  exact ⟨rfl, (by (try rw [hB]); exact bl_)⟩
end Go.Proofs.YtbpdocdomjafbaaGreatDoor
