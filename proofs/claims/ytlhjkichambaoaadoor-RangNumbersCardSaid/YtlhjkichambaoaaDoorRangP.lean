/- What the range coder refuses: what is no cell, a size that may not be; and what the nil coder and decoder answer. -/
import Derived.Test.YtlhjkichambaoaaDoorRangE2
namespace Go.Proofs.YtlhjkichambaoaaDoor
open Go.RowKit

set_option maxHeartbeats 400000 in
theorem EPut_no (g : Nat) {x y t : Int} (h : ¬ Sp.cellIs x y t) (w : World) :
    Calls Tryd.prog 13 #[.pointer (some ⟨g, 0, none⟩), .int .i64 x, .int .i64 y, .int .i64 t] w fun r w' => r = .returned (.int .i64 1) ∧ w = w' := by
  have HC := Lib.hid h
  clear h
  go_enter Tryd.func13, Tryd.ntmps13
  go_wp2_with fail
  refine (cell_no HC.out _).mono ?_
  rintro e w1 ⟨rfl, rfl⟩
  go_wp2_with fail
  go_ret
  exact ⟨rfl, rfl⟩
theorem EPut_nil (x y t : Int) (w : World) : Calls Tryd.prog 13 #[.pointer none, .int .i64 x, .int .i64 y, .int .i64 t] w fun r w' => r = .returned (.int .i64 1) ∧ w = w' := by
  go_enter Tryd.func13, Tryd.ntmps13
  go_wp2_with fail
  go_ret
  exact ⟨rfl, rfl⟩
set_option maxHeartbeats 400000 in
theorem NewEnc_no (n : Int) (h : n < 1 ∨ 4096 < n) (w : World) :
    Calls Tryd.prog 11 #[.int .i64 n] w fun r w' => r = .returned (.tuple #[.pointer none, .int .i64 1]) ∧ w = w' := by
  by_cases h1 : n < 1
  · clear h
    go_enter Tryd.func11, Tryd.ntmps11
    go_wp2
    go_ret2
    exact ⟨rfl, rfl⟩
  · have h2 : 4096 < n := by omega
    clear h
    go_enter Tryd.func11, Tryd.ntmps11
    go_wp2
    go_ret2
    exact ⟨rfl, rfl⟩
theorem EBits_nil (x n : Int) (w : World) : Calls Tryd.prog 25 #[.pointer none, .int .i64 x, .int .i64 n] w fun r w' => r = .returned (.int .i64 1) ∧ w = w' := by
  go_enter Tryd.func25, Tryd.ntmps25
  go_wp2_with fail
  go_ret
  exact ⟨rfl, rfl⟩
theorem EUsed_nil (w : World) : Calls Tryd.prog 16 #[.pointer none] w fun r w' => r = .returned (.int .i64 0) ∧ w = w' := by
  go_enter Tryd.func16, Tryd.ntmps16
  go_wp2_with fail
  go_ret
  exact ⟨rfl, rfl⟩
theorem EDone_nil (w : World) : Calls Tryd.prog 18 #[.pointer none] w fun r w' => r = .returned (.tuple #[.string ⟨#[]⟩, .int .i64 1]) ∧ w = w' := by
  go_enter Tryd.func18, Tryd.ntmps18
  go_wp2_with fail
  go_ret2
  exact ⟨rfl, rfl⟩
theorem DAt_nil (t : Int) (w : World) : Calls Tryd.prog 22 #[.pointer none, .int .i64 t] w fun r w' => r = .returned (.tuple #[.int .i64 0, .int .i64 1]) ∧ w = w' := by
  go_enter Tryd.func22, Tryd.ntmps22
  go_wp2_with fail
  go_ret2
  exact ⟨rfl, rfl⟩
theorem DTake_nil (x y t : Int) (w : World) : Calls Tryd.prog 23 #[.pointer none, .int .i64 x, .int .i64 y, .int .i64 t] w fun r w' => r = .returned (.int .i64 1) ∧ w = w' := by
  go_enter Tryd.func23, Tryd.ntmps23
  go_wp2_with fail
  go_ret
  exact ⟨rfl, rfl⟩
theorem DBits_nil (n : Int) (w : World) : Calls Tryd.prog 27 #[.pointer none, .int .i64 n] w fun r w' => r = .returned (.tuple #[.int .i64 0, .int .i64 1]) ∧ w = w' := by
  go_enter Tryd.func27, Tryd.ntmps27
  go_wp2_with fail
  go_ret2
  exact ⟨rfl, rfl⟩
theorem DUsed_nil (w : World) : Calls Tryd.prog 24 #[.pointer none] w fun r w' => r = .returned (.int .i64 0) ∧ w = w' := by
  go_enter Tryd.func24, Tryd.ntmps24
  go_wp2_with fail
  go_ret
  exact ⟨rfl, rfl⟩
end Go.Proofs.YtlhjkichambaoaaDoor
