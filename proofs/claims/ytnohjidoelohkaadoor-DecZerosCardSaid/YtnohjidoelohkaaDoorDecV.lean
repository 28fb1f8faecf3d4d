/- The walk of mdct.Held: are a frame's numbers small enough? -/
import Derived.Test.YtnohjidoelohkaaDoorDecP
namespace Go.Proofs.YtnohjidoelohkaaDoor
open Go.RowKit

/-- A number that is too great for a frame's waves. -/
def wideP (x : Int) : Bool := decide (x < -1048576) || decide (1048576 < x)
theorem Held1_any (x : Int) (w : World) : Calls Tryd.prog 28 #[.int .i64 x] w fun e w' => e = .returned (.bool (wideP x)) ∧ w = w' := by
  unfold wideP
  by_cases h1 : x < -1048576
  · go_enter Tryd.func28, Tryd.ntmps28
    go_wp2
    go_ret
    exact ⟨by simp [h1], rfl⟩
  · go_enter Tryd.func28, Tryd.ntmps28
    go_wp2
    go_ret
    exact ⟨by simp; omega, rfl⟩
theorem Blk.sliceI {W : World} {b : Nat} {l : List Int} {t : TypeId} (h : Blk W b (arrV l) t) (hl : l.length ≤ 1000000) : SliceI W (.slice (some ⟨b, 0, none⟩) l.length l.length) l :=
  ⟨_, l.length, rfl, Nat.le_refl _, by omega, fun j x hx => ⟨b, 0, rfl, by
    have hj : j < l.length := (List.getElem?_eq_some_iff.1 hx).1
    rw [Nat.zero_add, h.cell j, List.getElem?_toArray, ints_get hj, List.getD_eq_getElem?_getD, hx, Option.getD_some]⟩⟩
set_option maxHeartbeats 800000 in
theorem Held_any (l : List Int) (hl : l.length = 16) (w : World) : Calls Tryd.prog 13 #[.agg (arrV l)] w fun e w' => e = .returned (.bool (!l.any wideP)) ∧ Below w.heap.size w w' := by
  have hX := Blk.new w (arrV l) 27
  have hC := Contains_any 28 wideP l _ _ (hX.sliceI (by omega)) (by omega) (fun _ _ => by kernel_rfl) (fun x _ w => Held1_any x w)
  rw [hl] at hC
  have hb1 : Below w.heap.size w (w.alloc (.cells (arrV l) 27)) := (Below.refl _ _).alloc (Nat.le_refl _) _
  go_enter Tryd.func13, Tryd.ntmps13
  go_wp2_with fail
  refine hC.mono ?_
  rintro e w1 ⟨rfl, rfl⟩
  go_wp2_with fail
  go_ret
  exact ⟨rfl, hb1⟩
end Go.Proofs.YtnohjidoelohkaaDoor
