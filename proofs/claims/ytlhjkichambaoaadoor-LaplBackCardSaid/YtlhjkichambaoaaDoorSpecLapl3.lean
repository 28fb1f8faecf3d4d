/- The plain law of the Laplace cells as the document's reference reckons them, and what a number costs. -/
import Derived.Test.YtlhjkichambaoaaDoorSpecLapl2
namespace Go.Proofs.YtlhjkichambaoaaDoor.Sp
def hv (m : Nat) : Int := 5000 / 2 ^ (m - 1)
theorem hv_bd (m : Nat) : 0 ≤ hv m ∧ hv m ≤ 5000 := by
  unfold hv
  exact ⟨Int.ediv_nonneg (by omega) (Int.pow_nonneg (by omega)), Int.ediv_le_self _ (by omega)⟩
theorem hv_step {m : Nat} (h : 1 ≤ m) : hv (m + 1) = hv m / 2 := by
  unfold hv
  obtain ⟨k, rfl⟩ : ∃ k, m = k + 1 := ⟨m - 1, by omega⟩
  rw [show k + 1 + 1 - 1 = k + 1 from rfl, show k + 1 - 1 = k from rfl, Int.pow_succ, Int.ediv_ediv_of_nonneg (Int.pow_nonneg (by omega))]
theorem lw_hv (k : Nat) : lw k = max (hv k) 8 := rfl
theorem cell_lw : ∀ k < 25, 1 ≤ k → (cellOf (k : Nat)).2.1 = lw k ∧ (cellOf (-((k : Nat) : Int))).2.1 = lw k := by decide +kernel
theorem cell_0 : cellOf 0 = (0, 12568, true) := by decide +kernel
/-- The i-th number: 0, 1, -1, 2, -2, .. -/
def ordN (i : Nat) : Int := if i % 2 = 1 then (((i + 1) / 2 : Nat) : Int) else -((i / 2 : Nat) : Int)
theorem ordN_step (i : Nat) : ordN (i + 1) = if 0 < ordN i then -ordN i else 1 - ordN i := by
  unfold ordN
  split <;> split <;> (try split) <;> (try split) <;> omega
theorem ordN_bd {i : Nat} (h : i < 49) : -24 ≤ ordN i ∧ ordN i ≤ 24 := by
  unfold ordN; split <;> omega
def idxN (v : Int) : Nat := if 0 < v then (2 * v - 1).toNat else (-2 * v).toNat
theorem ordN_idx (v : Int) : ordN (idxN v) = v := by
  unfold ordN idxN; split <;> split <;> omega
theorem idxN_bd {v : Int} (h1 : -24 ≤ v) (h2 : v ≤ 24) : idxN v < 49 := by unfold idxN; split <;> omega
theorem ordN_inj {i j : Nat} (h : ordN i = ordN j) : i = j := by
  unfold ordN at h; split at h <;> split at h <;> omega
def stN : Nat → Int
  | 0 => 0
  | i + 1 => stN i + (cellOf (ordN i)).2.1
theorem st_cell : ∀ i < 49, (cellOf (ordN i)).1 = stN i ∧ (cellOf (ordN i)).2.2 = true := by decide +kernel
theorem st_49 : stN 49 = 32768 := by decide +kernel
theorem st_bd (i : Nat) : 0 ≤ stN i ∧ stN i ≤ 32768 * i := by
  induction i with
  | zero => simp [stN]
  | succ i ih => have := cellOf_bd (ordN i); simp only [stN]; omega
theorem st_is {i : Nat} (h : i < 49) : cellOf (ordN i) = (stN i, (cellOf (ordN i)).2.1, true) := by
  have := st_cell i h
  rw [← this.1, ← this.2]
/-- How many halvings of 2^15 make no more than a width. -/
def costW (w : Int) : Nat := ((List.range 16).find? (fun n => decide ((32768 : Int) / 2 ^ n ≤ w))).getD 0
def costOf (v : Int) : Int := if (cellOf v).2.2 then costW (cellOf v).2.1 else 0
theorem costW_eq {w : Int} {n : Nat} (hn : n < 16) (h1 : ∀ m, m < n → w < 32768 / 2 ^ m) (h2 : (32768 : Int) / 2 ^ n ≤ w) : costW w = n := by
  unfold costW
  have : (List.range 16).find? (fun n => decide ((32768 : Int) / 2 ^ n ≤ w)) = some n := by
    rw [List.find?_range_eq_some]
    refine ⟨by simpa using h2, by simpa using hn, fun j hj => ?_⟩
    have := h1 j hj
    simp; omega
  rw [this]; rfl
end Go.Proofs.YtlhjkichambaoaaDoor.Sp
