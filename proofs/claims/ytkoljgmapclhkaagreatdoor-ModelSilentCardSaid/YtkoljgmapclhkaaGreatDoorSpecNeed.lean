/- The plain words of how many pages a record takes. -/
import Derived.Test.YtkoljgmapclhkaaGreatDoorLot0
set_option linter.unusedSimpArgs false
set_option linter.unusedVariables false
namespace Go.Proofs.YtkoljgmapclhkaaGreatDoor

/-- How many pages so many pieces take, from a page on. -/
def needP : Nat → Nat → Nat
  | _, 0 => 0
  | i, n + 1 => if i % 16 = 0 then 2 + needP (i + 2) n else 1 + needP (i + 1) n
def piecesP (size : Nat) : Nat := if size < 1 ∨ 4096 < size then 0 else (size + 48) / 49
def needE (next size : Nat) : Nat := needP next (piecesP size)
theorem needP_head {i n : Nat} (h : i % 16 = 0) (hn : 0 < n) : needP i n = 1 + needP (i + 1) n := by
  obtain ⟨m, rfl⟩ : ∃ m, n = m + 1 := ⟨n - 1, by omega⟩
  have h2 : ¬ (i + 1) % 16 = 0 := by omega
  have e : needP (i + 1 + 1) m = needP (i + 2) m := rfl
  rw [needP, if_pos h, needP, if_neg h2]; omega
theorem needP_data {i n : Nat} (h : ¬ i % 16 = 0) : needP i (n + 1) = 1 + needP (i + 1) n := by rw [needP, if_neg h]
theorem needP_pos {i n : Nat} (hn : 0 < n) : 0 < needP i n := by
  obtain ⟨m, rfl⟩ : ∃ m, n = m + 1 := ⟨n - 1, by omega⟩
  rw [needP]; split <;> omega
theorem needP_le : ∀ (n i : Nat), needP i n ≤ 2 * n := by
  intro n
  induction n with
  | zero => intro i; exact Nat.le_refl _
  | succ n ih => intro i; rw [needP]; have := ih (i + 2); have := ih (i + 1); split <;> omega
end Go.Proofs.YtkoljgmapclhkaaGreatDoor
