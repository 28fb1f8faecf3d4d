/- The walks of seek.may, At, Near. -/
import Derived.Test.YtbpdocdomjafbaaGreatDoorChk
set_option linter.unusedSimpArgs false
set_option linter.unusedVariables false
namespace Go.Proofs.YtbpdocdomjafbaaGreatDoor
open Go.RowKit Go.Shelf

def mayE (n : Nat) (i : Int) : Bool := decide (0 ≤ i) && decide (i ≤ n)
theorem may_any (p : Option Addr) (n cap : Nat) (i : Int) (w : World) : Calls Tryz.prog 21 #[.slice p n cap, .int .i64 i] w fun r w' => r = .returned (.bool (mayE n i)) ∧ w = w' := by
  by_cases h0 : 0 ≤ i
  · by_cases h1 : i ≤ n
    · have hr : mayE n i = true := by unfold mayE; simp [h0, h1]
      rw [hr]
      go_enter Tryz.func21, Tryz.ntmps21
      go_wp2
      go_ret
      exact ⟨rfl, rfl⟩
    · have hr : mayE n i = false := by unfold mayE; simp [h1]
      rw [hr]
      go_enter Tryz.func21, Tryz.ntmps21
      go_wp2
      go_ret
      exact ⟨rfl, rfl⟩
  · have hr : mayE n i = false := by unfold mayE; simp [h0]
    rw [hr]
    go_enter Tryz.func21, Tryz.ntmps21
    go_wp2
    go_ret
    exact ⟨rfl, rfl⟩
/-- Where the first entry stands whose stamp is none lesser. -/
def geE (st : Int) (e : Ent) : Bool := decide (st ≤ e.stamp)
end Go.Proofs.YtbpdocdomjafbaaGreatDoor
