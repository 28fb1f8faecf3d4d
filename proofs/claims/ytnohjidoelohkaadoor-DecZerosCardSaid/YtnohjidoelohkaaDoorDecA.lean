/- The walks of small functions under the decoder: cuts, lengths, shifts, bands, sizes. -/
import Derived.Test.YtnohjidoelohkaaDoorBase
import Derived.Test.YtnohjidoelohkaaDoorShelf
import Derived.Test.YtnohjidoelohkaaDoorSpecAng
namespace Go.Proofs.YtnohjidoelohkaaDoor
open Go.RowKit

set_option maxHeartbeats 400000 in
theorem Cut16 (x : Int) (w : World) : Calls Tryd.prog 25 #[.int .i64 x, .int .i64 16] w fun e w' => e = .returned (.int .i64 (Sp.cut 16 x)) ∧ w = w' := by
  go_enter Tryd.func25, Tryd.ntmps25
  go_wp2
  go_ret
  exact ⟨rfl, rfl⟩
set_option maxHeartbeats 400000 in
theorem Cut22 (x : Int) (w : World) : Calls Tryd.prog 25 #[.int .i64 x, .int .i64 22] w fun e w' => e = .returned (.int .i64 (Sp.cut 22 x)) ∧ w = w' := by
  go_enter Tryd.func25, Tryd.ntmps25
  go_wp2
  go_ret
  exact ⟨rfl, rfl⟩
set_option maxHeartbeats 400000 in
theorem Cut32 (x : Int) (w : World) : Calls Tryd.prog 25 #[.int .i64 x, .int .i64 32] w fun e w' => e = .returned (.int .i64 (Sp.cut 32 x)) ∧ w = w' := by
  go_enter Tryd.func25, Tryd.ntmps25
  go_wp2
  go_ret
  exact ⟨rfl, rfl⟩
set_option maxHeartbeats 400000 in
theorem Length_any (x : Int) (h0 : 0 ≤ x) (h1 : x ≤ 9223372036854775807) (w : World) : Calls Tryd.prog 56 #[.int .i64 x] w fun e w' => e = .returned (.int .i64 (Lib.bitLen x.toNat : Int)) ∧ w = w' := by
  go_enter Tryd.func56, Tryd.ntmps56
  go_wp2_with fail
  refine (Tryd.bits_Len64 x _ h0 (by omega)).mono ?_
  rintro e w1 ⟨rfl, rfl⟩
  go_wp2_with fail
  go_ret
  exact ⟨rfl, rfl⟩
theorem vsize_any (x : Int) (h0 : -8 ≤ x) (h1 : x ≤ 8) (w : World) : Calls Tryd.prog 58 #[.int .i64 x] w fun e w' => e = .returned (.int .i64 (max x (-x))) ∧ w = w' := by
  go_enter Tryd.func58, Tryd.ntmps58
  go_wp2
  go_ret
  exact ⟨rfl, rfl⟩
theorem may_yes (b : Nat) (hb : b < 4) (w : World) : Calls Tryd.prog 37 #[.int .i64 b] w fun e w' => e = .returned (.bool true) ∧ w = w' := by
  go_enter Tryd.func37, Tryd.ntmps37
  go_wp2
  go_ret
  exact ⟨by simp; omega, rfl⟩
/-- The table of the bands' first waves lies in its variable. -/
def BandsW (W : World) : Prop := Blk W 0 #[.int .i64 0, .int .i64 2, .int .i64 4, .int .i64 8, .int .i64 16] 77
def bandN (b : Nat) : Nat := [2, 2, 4, 8].getD b 0
set_option maxHeartbeats 400000 in
theorem Size_any (b : Nat) (hb : b < 4) (w : World) (hW : BandsW w) : Calls Tryd.prog 38 #[.int .i64 b] w fun e w' => e = .returned (.int .i64 (bandN b)) ∧ Kept (fun _ => False) w w' := by
  have hm := may_yes b hb w
  have c0 := hW.cell 0
  have c1 := hW.cell 1
  have c2 := hW.cell 2
  have c3 := hW.cell 3
  have c4 := hW.cell 4
  simp only [List.getElem?_toArray, List.getElem?_cons_zero, List.getElem?_cons_succ] at c0 c1 c2 c3 c4
  have hb4 : b = 0 ∨ b = 1 ∨ b = 2 ∨ b = 3 := by omega
  rcases hb4 with rfl | rfl | rfl | rfl
  all_goals
    go_enter Tryd.func38, Tryd.ntmps38
    go_wp2_with fail
    refine hm.mono ?_
    rintro e w1 ⟨rfl, rfl⟩
    go_wp2_with fail
    go_quiet (fail)
    go_wp2_with fail
    go_ret
    exact ⟨rfl, by repeat (first | (with_reducible exact Kept.refl _ _) | (with_reducible assumption) | (with_reducible refine Kept.drew ?_) | (with_reducible refine Kept.drewN ?_ _) | ((with_reducible refine Kept.setCell ?_ ?hp _); case hp => (first | exact Or.inl rfl | (left; simp; done) | (right; simp only [World.size_alloc, World.size_setCell, World.size_drew]; omega))) | (with_reducible refine Kept.alloc ?_ _))⟩
end Go.Proofs.YtnohjidoelohkaaDoor
