/- The plain law of the Laplace cells: what they are good for. -/
import Derived.Test.YtnohjidoelohkaaDoorSpecLapl
namespace Go.Proofs.YtnohjidoelohkaaDoor.Sp
/-! What the cells are good for. -/
def cellB (v : Int) : Bool := (cellOf v).2.2 && decide (0 ≤ (cellOf v).1) && decide (8 ≤ (cellOf v).2.1) && decide ((cellOf v).1 + (cellOf v).2.1 ≤ 32768) &&
  (decide (24 ≤ v) || ((decide (v < 0) || decide ((cellOf (v + 1)).2.1 ≤ (cellOf v).2.1)) && (decide (0 ≤ v) || decide ((cellOf v).2.1 ≤ (cellOf (v + 1)).2.1)))) &&
  decide ((cellOf v) = (match lcells.find? (fun c => c.1 == v) with | some c => (c.2.1, c.2.2, true) | none => (0, 0, false)))
theorem cells_all : ∀ k < 49, cellB ((k : Nat) - 24) = true := by decide +kernel
structure CellIs (v a c : Int) : Prop where
  eq : cellOf v = (a, c, true)
  a0 : 0 ≤ a
  c8 : 8 ≤ c
  ac : a + c ≤ 32768
  down : 0 ≤ v → v < 24 → (cellOf (v + 1)).2.1 ≤ c
  up : v < 0 → c ≤ (cellOf (v + 1)).2.1
theorem cell_is (v : Int) (h1 : -24 ≤ v) (h2 : v ≤ 24) : ∃ a c, CellIs v a c := by
  have h := cells_all (v + 24).toNat (by omega)
  rw [show (((v + 24).toNat : Nat) : Int) - 24 = v from by omega] at h
  simp only [cellB, Bool.and_eq_true, Bool.or_eq_true, decide_eq_true_eq] at h
  obtain ⟨⟨⟨⟨⟨h1, h2⟩, h3⟩, h4⟩, h5⟩, _⟩ := h
  refine ⟨(cellOf v).1, (cellOf v).2.1, ⟨?_, h2, h3, h4, ?_, ?_⟩⟩
  · rw [← h1]
  · intro a b; rcases h5 with h | h
    · omega
    · rcases h.1 with h | h
      · omega
      · exact h
  · intro a; rcases h5 with h | h
    · omega
    · rcases h.2 with h | h
      · omega
      · exact h
theorem cellOf_bd (v : Int) : 0 ≤ (cellOf v).1 ∧ (cellOf v).1 ≤ 32768 ∧ 0 ≤ (cellOf v).2.1 ∧ (cellOf v).2.1 ≤ 32768 := by
  unfold cellOf
  split
  · rename_i c hc
    have := lcells_bd c (List.mem_of_find?_eq_some hc)
    simp only; omega
  · simp
theorem cellOf_mem {v a c : Int} (h : cellOf v = (a, c, true)) : (v, a, c) ∈ lcells := by
  unfold cellOf at h
  split at h
  · rename_i x hx
    have h1 := List.mem_of_find?_eq_some hx
    have h2 := List.find?_some hx
    simp only [beq_iff_eq] at h2
    obtain ⟨x1, x2, x3⟩ := x
    simp only [Prod.mk.injEq] at h h2
    obtain ⟨rfl, rfl, _⟩ := h
    rw [← h2]; exact h1
  · simp at h
def apartB (c d : LC) : Bool := decide (c = d) || decide (c.2.1 + c.2.2 ≤ d.2.1) || decide (d.2.1 + d.2.2 ≤ c.2.1)
theorem apart_all : ∀ c ∈ lcells, ∀ d ∈ lcells, apartB c d = true := by decide +kernel
theorem cover (n : Nat) (p : Int) (h0 : 0 ≤ p) (h : p < lat n) : ∃ c ∈ lpre n, inCell p c = true := by
  induction n with
  | zero => exact ⟨(0, 0, 12568), by simp [lpre], by simp [lat, inCell] at *; omega⟩
  | succ n ih =>
    by_cases hp : p < lat n
    · obtain ⟨c, hc, hi⟩ := ih hp
      exact ⟨c, by simp [lpre, hc], hi⟩
    · by_cases h2 : p < lat n + lw (n + 1)
      · exact ⟨_, List.mem_append.2 (.inl (List.mem_append.2 (.inr (List.mem_singleton.2 rfl)))), by simp [inCell]; omega⟩
      · exact ⟨_, List.mem_append.2 (.inr (List.mem_singleton.2 rfl)), by simp only [lat] at h; simp [inCell]; omega⟩
theorem lat_24 : lat 24 = 32768 := by decide +kernel
/-- Whose cell a place lies in: just one. -/
theorem find_is (p : Int) (h0 : 0 ≤ p) (h1 : p < 32768) : ∃ v a c, findOf p = (v, true) ∧ (v, a, c) ∈ lcells ∧ a ≤ p ∧ p < a + c := by
  obtain ⟨c, hc, hi⟩ := cover 24 p h0 (by rw [lat_24]; exact h1)
  cases hf : lcells.find? (inCell p) with
  | none => exact absurd hi (by simpa using List.find?_eq_none.1 hf c hc)
  | some x =>
    have hx := List.find?_some hf
    simp only [inCell, Bool.and_eq_true, decide_eq_true_eq] at hx
    exact ⟨x.1, x.2.1, x.2.2, by rw [findOf, hf], List.mem_of_find?_eq_some hf, hx.1, hx.2⟩
theorem find_unique {p v a c : Int} (h0 : 0 ≤ p) (h1 : p < 32768) (hm : (v, a, c) ∈ lcells) (ha : a ≤ p) (hc : p < a + c) : findOf p = (v, true) := by
  obtain ⟨v', a', c', hf, hm', ha', hc'⟩ := find_is p h0 h1
  have := apart_all _ hm _ hm'
  simp only [apartB, Bool.or_eq_true, decide_eq_true_eq, Prod.mk.injEq] at this
  rcases this with (h | h) | h
  · rw [hf, h.1]
  · omega
  · omega
theorem lcells_v : ∀ c ∈ lcells, -24 ≤ c.1 ∧ c.1 ≤ 24 := by decide +kernel
theorem find_in (p : Int) (h0 : 0 ≤ p) (h1 : p < 32768) : ∃ v, findOf p = (v, true) ∧ -24 ≤ v ∧ v ≤ 24 := by
  obtain ⟨v, a, c, hf, hm, _⟩ := find_is p h0 h1
  exact ⟨v, hf, lcells_v _ hm⟩
theorem cell_hit {p v a c : Int} (h0 : 0 ≤ p) (h1 : p < 32768) (h : cellOf v = (a, c, true)) (ha : a ≤ p) (hc : p < a + c) : (findOf p).1 = v := by
  rw [find_unique h0 h1 (cellOf_mem h) ha hc]
theorem lcells_cell : ∀ x ∈ lcells, cellOf x.1 = (x.2.1, x.2.2, true) := by decide +kernel
theorem cell_miss {p v a c : Int} (h0 : 0 ≤ p) (h1 : p < 32768) (h : cellOf v = (a, c, true)) (hn : ¬ (a ≤ p ∧ p < a + c)) : (findOf p).1 ≠ v := by
  intro e
  obtain ⟨v', a', c', hf, hm', ha', hc'⟩ := find_is p h0 h1
  rw [hf] at e
  obtain rfl : v' = v := e
  have := lcells_cell _ hm'
  rw [h] at this
  simp only [Prod.mk.injEq] at this
  omega
/-- The sum of the widths of the first k numbers from -24 on. -/
def ssum : Nat → Int
  | 0 => 0
  | k + 1 => ssum k + (cellOf ((k : Int) - 24)).2.1
theorem ssum_49 : ssum 49 = 32768 := by decide +kernel
theorem ssum_bd (k : Nat) : 0 ≤ ssum k ∧ ssum k ≤ 32768 * k := by
  induction k with
  | zero => simp [ssum]
  | succ k ih => have := cellOf_bd ((k : Int) - 24); simp only [ssum]; omega
def ssumI (x : Int) : Int := ssum (x + 24).toNat
theorem ssumI_step {x a c : Int} (h : CellIs x a c) (h1 : -24 ≤ x) : ssumI (x + 1) = ssumI x + c := by
  unfold ssumI
  rw [show (x + 1 + 24).toNat = (x + 24).toNat + 1 from by omega, ssum, show (((x + 24).toNat : Nat) : Int) - 24 = x from by omega, h.eq]
theorem ssumI_bd {x : Int} (h1 : -24 ≤ x) (h2 : x ≤ 25) : 0 ≤ ssumI x ∧ ssumI x ≤ 10000000 := by
  have := ssum_bd (x + 24).toNat
  unfold ssumI; omega
/-- The counter: has the number v gone by? -/
def past (v x : Int) : Int := if v < x then 1 else 0
end Go.Proofs.YtnohjidoelohkaaDoor.Sp
