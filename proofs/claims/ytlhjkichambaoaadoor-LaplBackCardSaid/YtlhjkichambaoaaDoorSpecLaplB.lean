/- The plain law of numbers put as Laplace cells: they are taken again, and cost no more than is told. -/
import Derived.Test.YtlhjkichambaoaaDoorSpecLapl3
import Derived.Test.YtlhjkichambaoaaDoorSpecRangN2
import Derived.Test.YtlhjkichambaoaaDoorSpecRangG
namespace Go.Proofs.YtlhjkichambaoaaDoor.Sp

def valN (l : List Int) (i : Nat) : Int := (l.getD i 0).tmod 25
theorem tmod_bd (x : Int) : -24 ≤ x.tmod 25 ∧ x.tmod 25 ≤ 24 := by
  have h1 := Int.lt_tmod_of_pos x (show (0 : Int) < 25 by decide)
  have h2 := Int.tmod_lt_of_pos x (show (0 : Int) < 25 by decide)
  omega
theorem valN_bd (l : List Int) (i : Nat) : -24 ≤ valN l i ∧ valN l i ≤ 24 := tmod_bd _
def lapC (v : Int) : Cel := ((cellOf v).1, (cellOf v).2.1, 32768)
theorem lapC_is {v : Int} (h1 : -24 ≤ v) (h2 : v ≤ 24) : IsCel (lapC v) := by
  obtain ⟨a, c, h⟩ := cell_is v h1 h2
  unfold IsCel lapC
  rw [h.eq]
  have h3 := h.a0
  have h4 := h.c8
  have h5 := h.ac
  unfold cellIs
  simp only
  omega
def lapL (l : List Int) (i : Nat) : List Cel := (List.range i).map fun j => lapC (valN l j)
theorem lapL_len (l : List Int) (i : Nat) : (lapL l i).length = i := by simp [lapL]
theorem lapL_cel (l : List Int) (i : Nat) : ∀ c ∈ lapL l i, IsCel c := by
  intro c hc
  obtain ⟨j, _, rfl⟩ := List.mem_map.1 hc
  exact lapC_is (valN_bd l j).1 (valN_bd l j).2
theorem lapL_next (l : List Int) (i : Nat) : lapL l (i + 1) = lapL l i ++ [lapC (valN l i)] := by simp [lapL, List.range_succ]
def lapE (l : List Int) (i : Nat) : Enc := (Enc.new 1000).puts (lapL l i)
def lapD (s : ByteArray) (l : List Int) (i : Nat) : Dec := (Dec.new s).takes (lapL l i)
theorem lapE_next (l : List Int) (i : Nat) : lapE l (i + 1) = (lapE l i).put (cellOf (valN l i)).1 (cellOf (valN l i)).2.1 32768 := by
  unfold lapE; rw [lapL_next, Enc.puts_snoc]; rfl
theorem lapD_next (s : ByteArray) (l : List Int) (i : Nat) : lapD s l (i + 1) = (lapD s l i).take (cellOf (valN l i)).1 (cellOf (valN l i)).2.1 32768 := by
  unfold lapD; rw [lapL_next, Dec.takes_snoc]; rfl
theorem lapE_ok (l : List Int) (i : Nat) : (lapE l i).Ok (3 * i) ∧ (lapE l i).Inv ∧ (lapE l i).size = 1000 := by
  have h := Enc.puts_all (Enc.new_ok 1000) (Enc.new_inv 1000) (lapL_cel l i) (lapL l i).length (Nat.le_refl _)
  rw [List.take_length, lapL_len, Int.zero_add] at h
  exact h
theorem lapD_ok (s : ByteArray) (l : List Int) (i : Nat) : (lapD s l i).Ok (4 + 3 * i) := by
  induction i with
  | zero => simpa [lapD, lapL, Dec.takes] using Dec.new_ok s
  | succ i ih =>
    rw [lapD_next]
    have h := Dec.take_ok ih (lapC_is (valN_bd l i).1 (valN_bd l i).2)
    rw [show 4 + 3 * (i : Int) + 3 = 4 + 3 * ((i + 1 : Nat) : Int) from by omega] at h
    exact h
/-- What a number costs is enough. -/
theorem cost_all : ∀ k < 49, 32768 ≤ (cellOf ((k : Nat) - 24 : Int)).2.1 * 2 ^ costW (cellOf ((k : Nat) - 24 : Int)).2.1 ∧ costOf ((k : Nat) - 24 : Int) = costW (cellOf ((k : Nat) - 24 : Int)).2.1 ∧ costW (cellOf ((k : Nat) - 24 : Int)).2.1 ≤ 15 := by decide +kernel
theorem cost_is {v : Int} (h1 : -24 ≤ v) (h2 : v ≤ 24) : 32768 ≤ (cellOf v).2.1 * 2 ^ costW (cellOf v).2.1 ∧ costOf v = costW (cellOf v).2.1 ∧ costW (cellOf v).2.1 ≤ 15 := by
  have h := cost_all (v + 24).toNat (by omega)
  rw [show (((v + 24).toNat : Nat) : Int) - 24 = v from by omega] at h
  exact h
def costN (l : List Int) : Nat → Int
  | 0 => 0
  | i + 1 => costN l i + costOf (valN l i) + 1
theorem cost_bd {v : Int} (h1 : -24 ≤ v) (h2 : v ≤ 24) : 0 ≤ costOf v ∧ costOf v ≤ 15 := by
  obtain ⟨_, h3, h4⟩ := cost_is h1 h2
  omega
theorem costN_bd (l : List Int) (i : Nat) : 0 ≤ costN l i ∧ costN l i ≤ 16 * i := by
  induction i with
  | zero => simp [costN]
  | succ i ih => have := cost_bd (valN_bd l i).1 (valN_bd l i).2; simp only [costN]; omega
theorem new_used : (Enc.new 1000).used = 0 := by decide +kernel
theorem lapE_used (l : List Int) (i : Nat) : (lapE l i).used ≤ costN l i := by
  induction i with
  | zero =>
    have : lapE l 0 = Enc.new 1000 := rfl
    rw [this, new_used]
    simp [costN]
  | succ i ih =>
    rw [lapE_next]
    obtain ⟨h1, h2, _⟩ := lapE_ok l i
    obtain ⟨c1, c2, _⟩ := cost_is (valN_bd l i).1 (valN_bd l i).2
    have h := (put_grows h1 h2 (lapC_is (valN_bd l i).1 (valN_bd l i).2) _ c1).2
    simp only [lapC] at h
    simp only [costN]
    omega
theorem lap_within (l : List Int) (N : Nat) (hN : N ≤ 100) : Within (fitS (lapE l N).all 1000) (lapE l N) := by
  obtain ⟨h1, h2, _⟩ := lapE_ok l N
  have hl : (lapE l N).all.length ≤ 1000 := by rw [Enc.all_length]; have := h1.len; omega
  exact within_done h1 (fit_begins (Enc.all_bytes h1.bytes) hl)
theorem lapL_take (l : List Int) {i N : Nat} (h : i ≤ N) : (lapL l N).take i = lapL l i := by
  unfold lapL
  rw [← List.map_take, List.take_range, Nat.min_eq_left h]
theorem lap_sync {s : ByteArray} {l : List Int} {N : Nat} (hw : Within s (lapE l N)) (i : Nat) (hi : i ≤ N) : Sync s (lapE l i) (lapD s l i) := by
  have h := sync_takes (Enc.new_ok 1000) (Enc.new_inv 1000) (new_sync s 1000) (lapL_cel l N) hw i (by rw [lapL_len]; exact hi)
  rw [lapL_take l hi] at h
  exact h
theorem lap_used {s : ByteArray} {l : List Int} {N : Nat} (hw : Within s (lapE l N)) : (lapD s l N).used = (lapE l N).used := by
  have h := lap_sync hw N (Nat.le_refl _)
  unfold Dec.used Enc.used
  rw [h.rng, h.gone]
/-- Each number is met again. -/
theorem lap_meet {s : ByteArray} {l : List Int} {N : Nat} (hw : Within s (lapE l N)) {i : Nat} (hi : i < N) : (findOf ((lapD s l i).place 32768)).1 = valN l i := by
  have hc : (lapL l N)[i]? = some (lapC (valN l i)) := by unfold lapL; rw [List.getElem?_map, List.getElem?_range hi]; rfl
  obtain ⟨h1, h2, _⟩ := puts_back (Enc.new_ok 1000) (Enc.new_inv 1000) (new_sync s 1000) (lapL_cel l N) hw hc
  rw [lapL_take l (Nat.le_of_lt hi)] at h1 h2
  have hp := Dec.place_bd (lapD_ok s l i) (show (1 : Int) ≤ 32768 by decide) (by decide)
  obtain ⟨a, c, hcell⟩ := cell_is (valN l i) (valN_bd l i).1 (valN_bd l i).2
  simp only [lapC, hcell.eq] at h1 h2
  exact cell_hit hp.1 hp.2 hcell.eq h1 h2
end Go.Proofs.YtlhjkichambaoaaDoor.Sp
