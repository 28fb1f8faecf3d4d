/- The walk of spoollaw07.RangBack: whatever the cells, it returns true. -/
import Derived.Test.YtlhjkichambaoaaDoorLaw7
import Derived.Test.YtlhjkichambaoaaDoorRangD2
import Derived.Test.YtlhjkichambaoaaDoorSpecRangB
import Derived.Deep.RegionHeld3
namespace Go.Proofs.YtlhjkichambaoaaDoor
open Go.RowKit

/-- What was used behind each of the first k cells. -/
def usedL (M : List C3) (k : Nat) : List Int := (List.range k).map fun i => ((Sp.Enc.new 1000).puts (M.take (i + 1))).used
theorem usedL_snoc (M : List C3) (k : Nat) : usedL M (k + 1) = usedL M k ++ [((Sp.Enc.new 1000).puts (M.take (k + 1))).used] := by simp [usedL, List.range_succ]
theorem usedL_len (M : List C3) (k : Nat) : (usedL M k).length = k := by simp [usedL]
theorem usedL_at (M : List C3) {k i : Nat} (h : i < k) : (usedL M k).getD i 0 = ((Sp.Enc.new 1000).puts (M.take (i + 1))).used := by
  simp [usedL, List.getD_eq_getElem?_getD, List.getElem?_map, List.getElem?_range h]
/-- The first part: all that is put. -/
theorem back_put {M : List C3} (hM : ∀ c ∈ M, Sp.IsCel c) (k : Nat) (hk : k ≤ M.length) : ((Sp.Enc.new 1000).puts (M.take k)).Ok (3 * k) ∧ ((Sp.Enc.new 1000).puts (M.take k)).Inv ∧ ((Sp.Enc.new 1000).puts (M.take k)).size = 1000 := by
  have h := Sp.Enc.puts_all (Sp.Enc.new_ok 1000) (Sp.Enc.new_inv 1000) hM k hk
  rw [Int.zero_add] at h
  exact h
/-- The second part: what is met again. -/
theorem back_take {M : List C3} (hM : ∀ c ∈ M, Sp.IsCel c) (hlen : M.length ≤ 100) {k : Nat} {c : C3} (hc : M[k]? = some c) :
    let s := Sp.fitS ((Sp.Enc.new 1000).puts M).all 1000
    c.1 ≤ ((Sp.Dec.new s).takes (M.take k)).place c.2.2 ∧ ((Sp.Dec.new s).takes (M.take k)).place c.2.2 < c.1 + c.2.1 ∧ ((Sp.Dec.new s).takes (M.take (k + 1))).used = ((Sp.Enc.new 1000).puts (M.take (k + 1))).used := by
  intro s
  obtain ⟨h1, h2, h3⟩ := back_put hM M.length (Nat.le_refl _)
  rw [List.take_length] at h1 h2 h3
  have hl : ((Sp.Enc.new 1000).puts M).all.length ≤ 1000 := by rw [Sp.Enc.all_length]; have := h1.len; omega
  exact Sp.puts_back (Sp.Enc.new_ok 1000) (Sp.Enc.new_inv 1000) (Sp.new_sync s 1000) hM (Sp.within_done h1 (Sp.fit_begins (Sp.Enc.all_bytes h1.bytes) hl)) hc
theorem takes_ok {s : ByteArray} {M : List C3} (hM : ∀ c ∈ M, Sp.IsCel c) : ∀ k, k ≤ M.length → ((Sp.Dec.new s).takes (M.take k)).Ok (4 + 3 * k) := by
  intro k
  induction k with
  | zero => intro _; simpa [Sp.Dec.takes] using Sp.Dec.new_ok s
  | succ k ih =>
    intro hk
    have hc : M[k]? = some M[k] := List.getElem?_eq_getElem (by omega)
    rw [Sp.Dec.takes_next hc]
    have h := Sp.Dec.take_ok (ih (by omega)) (hM _ (List.getElem_mem (show k < M.length by omega)))
    rw [show (4 + 3 * (k : Int) + 3) = 4 + 3 * ((k + 1 : Nat) : Int) from by omega] at h
    exact h
end Go.Proofs.YtlhjkichambaoaaDoor
