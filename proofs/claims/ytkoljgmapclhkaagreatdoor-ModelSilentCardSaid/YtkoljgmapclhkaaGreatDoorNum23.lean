/- A slice of whole numbers that came in: each of its numbers lies in memory. -/
import Derived.Test.YtkoljgmapclhkaaGreatDoorLot13
set_option linter.unusedSimpArgs false
set_option linter.unusedVariables false
namespace Go.Proofs.YtkoljgmapclhkaaGreatDoor
open Go.RowKit

def NumsIn (W : World) (k : IntKind) (v : Value) (zs : List Int) : Prop :=
  ∃ o cap, v = .slice o zs.length cap ∧ zs.length ≤ cap ∧ cap ≤ 9223372036854775807 ∧
    ∀ (i : Nat) (x : Int), zs[i]? = some x → ∃ a, o = some a ∧ a.block < W.heap.size ∧ W.cell? (a.add i) = some (.int k x) ∧ (Lit.int k x).wf = true
theorem NumsIn.below {W W' : World} {k : IntKind} {v : Value} {zs : List Int} (h : NumsIn W k v zs) (hb : Below W.heap.size W W') : NumsIn W' k v zs := by
  obtain ⟨o, cap, hv, h1, h2, h3⟩ := h
  refine ⟨o, cap, hv, h1, h2, fun i x hx => ?_⟩
  obtain ⟨a, ho, ha, hc, hw⟩ := h3 i x hx
  exact ⟨a, ho, by have := hb.size; omega, (hb.cell (by rw [addr_block]; exact ha)).trans hc, hw⟩
end Go.Proofs.YtkoljgmapclhkaaGreatDoor
