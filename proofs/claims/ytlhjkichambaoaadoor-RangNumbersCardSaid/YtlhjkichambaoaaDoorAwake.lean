/- The walk of spoollaw07.awake. -/
import Derived.Test.YtlhjkichambaoaaDoorRangE3
namespace Go.Proofs.YtlhjkichambaoaaDoor
open Go.RowKit

theorem awake1 : Sp.fitS (Sp.Enc.new 3).all 3 = ⟨#[0, 0, 0]⟩ := by decide +kernel
theorem awake2 : Sp.fitOk (Sp.Enc.new 3).all 3 = true := by decide +kernel
theorem awake3 : Sp.fitS ((Sp.Enc.new 3).put 1 1 2).all 3 = ⟨#[]⟩ := by decide +kernel
theorem awake4 : Sp.fitOk ((Sp.Enc.new 3).put 1 1 2).all 3 = false := by decide +kernel
theorem awake5 : Sp.cellIs 1 1 2 := by unfold Sp.cellIs; omega
theorem awake6 : ((Sp.Enc.new 3).put 1 1 2).size = (3 : Nat) := by decide +kernel

set_option maxRecDepth 100000 in
set_option maxHeartbeats 800000 in
theorem awake_any (w : World) : Calls Tryd.prog 10 #[] w fun e w' => e = .returned (.bool true) ∧ Below w.heap.size w w' := by
  go_enter Tryd.func10, Tryd.ntmps10
  go_wp2_with fail
  refine (NewEnc_any 3 (by decide) (by decide) _).mono ?_
  rintro e w1 ⟨g, hg, rfl, hB1, hb1⟩
  have hR1 := Row.nil w1 5
  go_wp2_with fail
  refine (EncDone_any g (Sp.Enc.new_ok 3) (by decide) 3 rfl (by decide) _ _ hB1 hR1).mono ?_
  rintro e w2 ⟨rfl, hb2⟩
  rw [awake1, awake2]
  have hB2 := hB1.newB hb2
  have hR2 := Row.nil w2 5
  go_wp2_with fail
  refine (Put_any g (Sp.Enc.new_ok 3) (by decide) awake5 _ _ hB2 hR2).mono ?_
  rintro e w3 ⟨rfl, v3, hB3, hR3, hK3, hF3⟩
  go_wp2_with fail
  refine (EncDone_any g (Sp.Enc.put_ok (Sp.Enc.new_ok 3) awake5) (by decide) 3 awake6 (by decide) _ _ hB3 hR3).mono ?_
  rintro e w4 ⟨rfl, hb4⟩
  rw [awake3, awake4]
  go_wp2_with fail
  go_ret
  refine ⟨rfl, ?_⟩
  have h12 : Below w.heap.size w w2 := hb1.trans (hb2.mono hb1.size)
  have h23 : Below w.heap.size w2 w3 := hK3.below (fun k hk => by
    rcases hk with rfl | h
    · exact hg
    · simp [Value.ownBlock] at h) (by have := h12.size; exact this)
  have h13 := h12.trans h23
  exact h13.trans (hb4.mono h13.size)
end Go.Proofs.YtlhjkichambaoaaDoor
